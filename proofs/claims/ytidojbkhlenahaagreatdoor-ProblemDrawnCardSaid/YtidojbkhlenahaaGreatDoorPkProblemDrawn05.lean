/- Part 5. No condition. -/
import Derived.Laws.Bits64b
import Derived.Test.YtidojbkhlenahaaGreatDoorPkProblemDrawn04
set_option maxRecDepth 100000
set_option maxHeartbeats 16000000
namespace Go.Proofs.YtidojbkhlenahaaGreatDoor
namespace DecM
open WordsM
abbrev dec (n:Nat):LU:=Lib.decDigits n
def pd:Nat->Nat->LU
 |0,_=>[]
 |k+1,r=>pd k (r / 10)++[UInt8.ofNat (48+r%10)]
theorem Q1z {n:Nat} (h:n<10):dec n=[UInt8.ofNat (48+n)]:=by
 rw[dec,Lib.decDigits,dif_pos h]
theorem Q6m {n:Nat} (h:¬n<10):dec n=dec (n / 10)++[UInt8.ofNat (48+n%10)]:=by
 rw[dec,Lib.decDigits,dif_neg h]
theorem Quu (q:Nat) (hq:0<q):∀k r,r<10^k->dec (q*10^k+r)=dec q++pd k r
 |0,r,h=>by
  obtain rfl:r=0:=by simpa using h
  simp[pd]
 |k+1,r,h=>by
  have hp:10<=q*10^(k+1):=by
   have h1:1<=10^k:=Tn (by decide);have h2:1*1<=q*10^k:=Nat.mul_le_mul hq h1;rw[Tb,<-UJ];omega
  have e1:(q*10^(k+1)+r) / 10=q*10^k+r / 10:=by
   rw[Tb,<-UJ];omega
  have e2:(q*10^(k+1)+r)%10=r%10:=by
   rw[Tb,<-UJ];omega
  have h3:r / 10<10^k:=by rw[Tb] at h;omega
  rw[Q6m (by omega),e1,e2,Quu q hq k (r / 10) h3,pd,UV]
theorem Qp4:∀k,pd k 0=List.replicate k 48
 |0=>rfl
 |k+1=>by
  rw[pd,Nat.zero_div,Qp4 k,List.replicate_succ'];rfl
theorem Q3k (n:Nat):1<=(dec n).length:=by
 by_cases h:n<10
 ·rw[Q1z h];simp
 ·rw[Q6m h];simp
theorem dec_len (j:Nat):∀n,n<10^j->1<=j->(dec n).length<=j:=by
 induction j with
 |zero=>intro n _ h;omega
 |succ j ih=>
  intro n hn _
  by_cases h:n<10
  ·rw[Q1z h];simp
  ·rw[Q6m h];have hj:1<=j:=by
    rcases TZ j with rfl|h1
    ·simp at hn;omega
    ·exact h1
   have:=ih (n / 10) (by rw[Tb] at hn;omega) hj;simp only[Ui,List.length_singleton];omega
theorem Quv:∀k r,1<=k->r<10^k->pd k r=List.replicate (k-(dec r).length) 48++dec r
 |0,_,h,_=>by omega
 |k+1,r,_,hr=>by
  by_cases h:r<10
  ·rw[Q1z h,pd,Xal h,Xac h,Qp4];simp
  ·have hk:1<=k:=by
    rcases TZ k with rfl|h1
    ·simp at hr;omega
    ·exact h1
   rw[pd,Quv k (r / 10) hk (by rw[Tb] at hr;omega),Q6m h,UV];simp
def dv (l:LU):Nat:=l.foldl (fun a b=>10*a+(b.toNat-48)) 0
theorem Qvg (l:LU):∀a,l.foldl (fun a b=>10*a+(b.toNat-48)) a=a*10^l.length+dv l:=by
 induction l with
 |nil=>intro a;simp[dv]
 |cons c r ih=>
  intro a;have h1:=ih (10*a+(c.toNat-48));have h2:=ih (10*0+(c.toNat-48));simp only[List.foldl_cons,dv,Ul,Tb] at h1 h2⊢;rw[h1,h2,Tj,Tj,UB 10 a,UJ,UB 10 (10^r.length)];omega
theorem Qgk (l r:LU):dv (l++r)=dv l*10^r.length+dv r:=by
 rw[dv,List.foldl_append];exact Qvg r _
theorem Qp5 (l:LU) (c:UInt8):dv (l++[c])=10*dv l+(c.toNat-48):=by
 rw[Qgk];simp[dv];omega
theorem Q4x (d:Nat) (h:d<10):(UInt8.ofNat (48+d)).toNat=48+d:=by
 rw[UInt8.toNat_ofNat'];omega
theorem Qp6 (n:Nat):dv (dec n)=n:=by
 induction n using Nat.strongRecOn with
 |ind n ih=>
  by_cases h:n<10
  ·rw[Q1z h];simp[dv];omega
  ·rw[Q6m h,Qp5,ih (n / 10) (by omega),Q4x _ (TH _ (by decide))];omega
def Qir (l:LU):Prop:=∀c∈l,48<=c.toNat/\c.toNat<=57
theorem Qgl (l:LU) (h:Qir l):dv l<10^l.length:=by
 rcases List.eq_nil_or_concat l with rfl|⟨r,c,rfl⟩
 ·simp[dv]
 ·rw[List.concat_eq_append] at h⊢;have h1:=Qgl r fun x hx=>h x (by simp[hx]);have h2:=h c (by simp);rw[Qp5,Ui,List.length_singleton,Tb];omega
termination_by l.length
decreasing_by simp_all
theorem Q5o (n:Nat):Qir (dec n):=by
 induction n using Nat.strongRecOn with
 |ind n ih=>
  intro c hc
  by_cases h:n<10
  ·rw[Q1z h,Uy] at hc;subst hc;rw[Q4x n h];omega
  ·rw[Q6m h] at hc;rcases Tl.1 hc with hc|hc
   ·exact ih (n / 10) (by omega) c hc
   ·rw[Uy] at hc;subst hc;rw[Q4x _ (TH _ (by decide))];omega
theorem Ql2 (n:Nat) (hn:n≠0):(dec n).headD 0≠48:=by
 induction n using Nat.strongRecOn with
 |ind n ih=>
  by_cases h:n<10
  ·rw[Q1z h]
   show UInt8.ofNat (48+n)≠48
   intro e;have:=congrArg UInt8.toNat e;rw[Q4x n h] at this;have h2:(48:UInt8).toNat=48:=rfl;omega
  ·rw[Q6m h];have h1:=ih (n / 10) (by omega) (by omega);have h2:=Q3k (n / 10);cases hd:dec (n / 10) with
   |nil=>rw[hd] at h2;simp at h2
   |cons x r=>rw[hd] at h1;simpa using h1
def digN:LU->Nat
 |[]=>0
 |c::r=>if 48<=c.toNat/\c.toNat<=57 then digN r+1 else 0
theorem Qew:∀l,digN l<=l.length
 |[]=>Ue _
 |c::r=>by
  have:=Qew r;simp only[digN,Ul]
  split <;> omega
theorem Qgm:∀(l:LU) (k:Nat),k<=l.length->(∀j c,l[j]?=some c->j<k->48<=c.toNat/\c.toNat<=57)->(∀c,l[k]?=some c->¬(48<=c.toNat/\c.toNat<=57))->digN l=k
 |[],k,h,_,_=>by simp at h;simp[digN,h]
 |c::r,0,_,_,h3=>by
  have:=h3 c rfl;simp[digN,this]
 |c::r,k+1,h1,h2,h3=>by
  have hc:=h2 0 c rfl (by omega);have:=Qgm r k (by simpa using h1) (fun j x hx hj=>h2 (j+1) x (by simpa using hx) (by omega)) (fun x hx=>h3 x (by simpa using hx));simp[digN,hc,this]
theorem Q93:∀l:LU,Qir (l.take (digN l))
 |[]=>fun c hc=>by simp at hc
 |c::r=>by
  simp only[digN]
  split
  ·rename_i h;intro x hx;rw[List.take_succ_cons] at hx;rcases UD.1 hx with rfl|hx
   ·exact h
   ·exact Q93 r x hx
  ·intro x hx;simp at hx
theorem Qex (l r:LU) (h:Qir l):digN (l++r)=l.length+digN r:=by
 induction l with
 |nil=>simp
 |cons c l ih=>
  have h1:=h c (by simp);have h2:=ih fun x hx=>h x (by simp[hx]);simp[digN,h1,h2];omega
def Q2r:LU->Bool × LU
 |[]=>(false,[])
 |c::r=>if c=45 then (true,r) else (false,c::r)
def Qda:LU->Option Int
 |[]=>some 0
 |c::r=>if c≠112 then none else
  if (Q2r r).2.length<1∨6<(Q2r r).2.length∨digN (Q2r r).2<(Q2r r).2.length∨(Q2r r).2.headD 0=48 then none
  else some (if (Q2r r).1=true then -(dv (Q2r r).2:Int) else (dv (Q2r r).2:Int))
def form (s:LU):Option (Bool × Nat × Int):=
 if digN (Q2r s).2<1∨1300<digN (Q2r s).2∨((Q2r s).2.headD 0=48/\((Q2r s).1=true∨1<(Q2r s).2.length)) then none
 else match Qda ((Q2r s).2.drop (digN (Q2r s).2)) with
  |none=>none
  |some e=>some ((Q2r s).1,dv ((Q2r s).2.take (digN (Q2r s).2)),e)
theorem Qgn (l:LU) (h:Qir l) (r:LU) (hl:l≠[]):Q2r (l++r)=(false,l++r):=by
 cases l with
 |nil=>exact absurd rfl hl
 |cons c l=>
  have h1:=h c (by simp);have h2:c≠45:=by
   rintro rfl;have:(45:UInt8).toNat=45:=rfl;omega
  simp[Q2r,h2]
def Qa3 (e:Int):LU:=if e=0 then [] else 112::(if e<0 then 45::dec e.natAbs else dec e.natAbs)
theorem Qp7 (e:Int) (h: -65536<=e) (h2:e<=65536):Qda (Qa3 e)=some e:=by
 unfold Qa3
 by_cases h0:e=0
 ·rw[Uu h0,h0];rfl
 ·rw[Uq h0];have Vj:e.natAbs≠0:=by omega
  have C6:=Q3k e.natAbs;have Z6:=dec_len 6 e.natAbs (by have:(10:Nat)^6=1000000:=rfl;omega) (by decide);have hd:=Qex (dec e.natAbs) [] (Q5o _);rw[Xao] at hd;simp only[digN,TD] at hd;have hh:=Ql2 e.natAbs Vj
  by_cases Q6:e<0
  ·rw[Uu Q6];have hm:Q2r (45::dec e.natAbs)=(true,dec e.natAbs):=rfl;rw[Qda,Uq (by simp),hm];simp only;rw[Uq (by rintro (h|h|h|h) <;> first|omega|exact hh h),Uu trivial,Qp6]
   congr 1;omega
  ·rw[Uq Q6];have hm:Q2r (dec e.natAbs)=(false,dec e.natAbs):=by
    have:=Qgn (dec e.natAbs) (Q5o _) [] (fun e'=>by rw[e'] at C6;simp at C6);rwa[Xao] at this
   rw[Qda,Uq (by simp),hm];simp only;rw[Uq (by rintro (h|h|h|h) <;> first|omega|exact hh h),Uq (by simp),Qp6]
   congr 1;omega
theorem Qp8 (e:Int):digN (Qa3 e)=0:=by
 unfold Qa3
 split
 ·rfl
 ·rw[digN,Uq];decide
def Q2a (neg:Bool) (v:Nat) (e:Int):LU:=(if neg=true then [45] else [])++(dec v++Qa3 e)
theorem Qp9 (neg:Bool) (v:Nat) (e:Int) (h: -65536<=e) (h2:e<=65536) (hv:v<10^1300) (h0:v=0->neg=false/\e=0):form (Q2a neg v e)=some (neg,v,e):=by
 have C6:=Q3k v;have Z6:=dec_len 1300 v hv (by decide);have C1:dec v≠[]:=fun e'=>by rw[e'] at C6;simp at C6
 have hm:Q2r (Q2a neg v e)=(neg,dec v++Qa3 e):=by
  cases neg
  ·exact Qgn (dec v) (Q5o v) (Qa3 e) C1
  ·rfl
 have hd:=Qex (dec v) (Qa3 e) (Q5o v);rw[Qp8,TD] at hd;unfold form;rw[hm];simp only;rw[hd,List.drop_left,List.take_left,Qp7 e h h2,Qp6,Uq];rintro (h3|h3|⟨h3,h4⟩)
 ·omega
 ·omega
 ·have hh:(dec v++Qa3 e).headD 0=(dec v).headD 0:=by
   cases hc:dec v with
   |nil=>exact absurd hc C1
   |cons x r=>rfl
  rw[hh] at h3
  by_cases M7:v=0
  ·obtain ⟨h5,h6⟩:=h0 M7;subst M7;subst h6;rcases h4 with h4|h4
   ·rw[h5] at h4;cases h4
   ·rw[Q1z (by decide)] at h4;simp[Qa3] at h4
  ·exact Ql2 v M7 h3
end DecM
open DecM Go.RowKit WordsM
def Q0n (s:LU) (p:Nat):UInt8:=s.getD p 0
theorem Qgo {s:LU} {p:Nat} (h:Q0n s p≠0):p<s.length:=by
 refine TR fun x5=>h ?_;unfold Q0n;rw[Tc,Ta x5];rfl
theorem Q94 {s:LU} {p:Nat} {c:UInt8} (h:Q0n s p=c) (hc:c≠0):p<s.length:=Qgo (by rw[h];exact hc)
def Q8g:LU->Nat
 |[]=>0
 |c::r=>if c=32 then Q8g r+1 else 0
def Q0g (s:LU) (p:Nat):Nat:=p+Q8g (s.drop p)
theorem Ql3:∀l,Q8g l<=l.length
 |[]=>Ue _
 |c::r=>by
  have:=Ql3 r;simp only[Q8g,Ul]
  split <;> omega
theorem Qvh {s:LU} {p:Nat} (h:p<=s.length):Q0g s p<=s.length:=by
 have:=Ql3 (s.drop p);rw[Th] at this;unfold Q0g;omega
theorem Q7w {s:LU} {p:Nat} (h:Q0n s p=32):Q0g s p=Q0g s (p+1):=by
 have hp:=Q94 h (by decide);unfold Q0g;rw[UQ hp];have hc:s[p]=32:=by
  unfold Q0n at h;rw[Tc,Ub hp] at h;exact h
 rw[Q8g,Uu hc];omega
theorem Q95 {s:LU} {p:Nat} (h:Q0n s p≠32):Q0g s p=p:=by
 unfold Q0g
 by_cases hp:p<s.length
 ·rw[UQ hp];have hc:s[p]≠32:=by
   unfold Q0n at h;rw[Tc,Ub hp] at h;exact h
  rw[Q8g,Uq hc];rfl
 ·rw[Tm (by omega)];rfl
theorem Q96 (s:LU) (p:Nat):Q0g s (Q0g s p)=Q0g s p:=by
 have key:∀n p,s.length-p=n->Q0g s (Q0g s p)=Q0g s p:=by
  intro n
  induction n using Nat.strongRecOn with
  |ind n ih=>
   intro p hn
   by_cases h:Q0n s p=32
   ·have hp:=Q94 h (by decide);rw[Q7w h];exact ih (s.length-(p+1)) (by omega) (p+1) rfl
   ·rw[Q95 h,Q95 h]
 exact key _ p rfl
abbrev PR (α:Type):=Except Nat (α × Nat)
def Q4f (s:LU) (p:Nat):Nat:=p+digN (s.drop p)
def Qsj (s:LU) (p:Nat):Nat:=
 if Q0n s (Q4f s p)=112 then (if Q0n s (Q4f s p+1)=45 then Q4f s (Q4f s p+2) else Q4f s (Q4f s p+1)) else Q4f s p
def Qyr (s:LU) (p:Nat):PR Ex:=
 match form ((s.drop p).take (Qsj s p-p)) with
 |none=>.error p
 |some (neg,v,e)=>.ok (.num (if Qau (dy (sgn neg v) e)=true then some (dy (sgn neg v) e) else none),Qsj s p)
def Qsk (sub:Nat->PR Ex) (opens:Bool) (s:LU) (most:Nat) (p0:Nat):PR Ex:=
 if 48<=(Q0n s (Q0g s p0)).toNat/\(Q0n s (Q0g s p0)).toNat<=57 then Qyr s (Q0g s p0)
 else if Q0n s (Q0g s p0)=120 then
  (if 49<=(Q0n s (Q0g s p0+1)).toNat/\(Q0n s (Q0g s p0+1)).toNat<=48+most then .ok (.var ((Q0n s (Q0g s p0+1)).toNat-49),Q0g s p0+2) else .error (Q0g s p0+1))
 else if Q0n s (Q0g s p0)=40/\opens=true then
  match sub (Q0g s p0+1) with
  | .error e=>.error e
  | .ok (x,q)=>if Q0n s (Q0g s q)=41 then .ok (x,Q0g s q+1) else .error (Q0g s q)
 else .error (Q0g s p0)
def Qbv (sub:Nat->PR Ex) (opens:Bool) (s:LU) (most:Nat) (p:Nat):PR Ex:=
 match Qsk sub opens s most p with
 | .error e=>.error e
 | .ok (b,q)=>if Q0n s (Q0g s q)=94 then
    (if 48<=(Q0n s (Q0g s (Q0g s q+1))).toNat/\(Q0n s (Q0g s (Q0g s q+1))).toNat<=56 then .ok (.pow b ((Q0n s (Q0g s (Q0g s q+1))).toNat-48),Q0g s (Q0g s q+1)+1) else .error (Q0g s (Q0g s q+1)))
   else .ok (b,Q0g s q)
def Qmj (sub:Nat->PR Ex) (opens:Bool) (s:LU) (most:Nat):Nat->Nat->List Ex->PR Ex
 |0,p,_=>.error p
 |f+1,p,acc=>match Qbv sub opens s most p with
  | .error e=>.error e
  | .ok (x,q)=>if Q0n s (Q0g s q)=42 then Qmj sub opens s most f (Q0g s q+1) (acc++[x]) else .ok (.prod (acc++[x]),Q0g s q)
def Quw (sub:Nat->PR Ex) (opens:Bool) (s:LU) (most:Nat):Nat->Nat->Bool->List (Bool × Ex)->PR Ex
 |0,p,_,_=>.error p
 |f+1,p,below,acc=>match Qmj sub opens s most (s.length+1) p [] with
  | .error e=>.error e
  | .ok (x,q)=>if Q0n s (Q0g s q)=43 then Quw sub opens s most f (Q0g s q+1) false (acc++[(below,x)])
    else if Q0n s (Q0g s q)=45 then Quw sub opens s most f (Q0g s q+1) true (acc++[(below,x)])
    else .ok (.sum (acc++[(below,x)]),Q0g s q)
def Qj8 (sub:Nat->PR Ex) (opens:Bool) (s:LU) (most:Nat) (p:Nat):PR Ex:=
 if Q0n s (Q0g s p)=45 then Quw sub opens s most (s.length+1) (Q0g s p+1) true [] else Quw sub opens s most (s.length+1) (Q0g s p) false []
def Qpa (s:LU) (most:Nat):Nat->Nat->PR Ex
 |0=>Qj8 (fun q=>.error q) false s most
 |d+1=>Qj8 (Qpa s most d) true s most
def Q70 (s:LU):LU->Nat->Except Nat Nat
 |[],p=>.ok p
 |c::r,p=>if Q0n s p=c then Q70 s r (p+1) else .error p
def Q5z (i:Nat):LU:=120::(dec (i+1)++[39,32,61,32])
def Qvi (s:LU) (most i p:Nat):PR Ex:=
 match Q70 s (Q5z i) p with
 | .error e=>.error e
 | .ok p1=>match Qpa s most 16 p1 with
   | .error e=>.error e
   | .ok (x,q)=>if Q0n s (Q0g s q)=10 then .ok (x,Q0g s q+1) else .error (Q0g s q)
def Qpb (s:LU) (most:Nat):Nat->Nat->List (Nat × Ex)->Except Nat (List (Nat × Ex))
 |0,p,_=>.error p
 |f+1,p,acc=>match Qvi s most acc.length p with
  | .error e=>.error e
  | .ok (x,q)=>if q<s.length then Qpb s most f q (acc++[(p,x)]) else .ok (acc++[(p,x)])
def Qal (i:Nat) (k:Int):List (LU):=
 if k=1 then [120::dec (i+1)] else if 1<k then [120::(dec (i+1)++94::dec k.toNat)] else []
def Q1b:Nat->List Int->List (LU)
 |_,[]=>[]
 |i,k::r=>Qal i k++Q1b (i+1) r
def Q2s:Dyadic->Bool
 | .zero=>false
 | .ofOdd n _ _=>decide (n<0)
def Qmk (d:Dyadic):Dyadic:=if Q2s d=true then -d else d
def dyT:Dyadic->LU
 | .zero=>[48]
 | .ofOdd n k _=>Q2a (decide (n<0)) n.natAbs (-k)
def Q2o:List (LU)->LU
 |[]=>[]
 |[x]=>x
 |x::y::r=>x++42::Q2o (y::r)
def Q3o (p:Q0m):List (LU):=
 if Q1b 0 p.2=[]∨Qmk p.1≠1 then dyT (Qmk p.1)::Q1b 0 p.2 else Q1b 0 p.2
def Q1t (p:Q0m):LU:=Q2o (Q3o p)
def Q30 (first:Bool) (p:Q0m):LU:=
 if first=true then (if Q2s p.1=true then [45] else []) else (if Q2s p.1=true then [32,45,32] else [32,43,32])
def Q0w:Bool->List Q0m->LU
 |_,[]=>[]
 |first,p::r=>Q30 first p++(Q1t p++Q0w false r)
def Q5p (P:List Q0m):LU:=if P=[] then [48] else Q0w true P
def Q5q (i:Nat) (P:List Q0m):LU:=Q5z i++(Q5p P++[10])
def Q1d:Nat->List (List Q0m)->LU
 |_,[]=>[]
 |i,P::r=>Q5q i P++Q1d (i+1) r
def Qux (F:List (List Q0m)):Prop:=1<=F.length/\F.length<=4/\∀P∈F,Q92 F.length P
theorem Q7x {neg:Bool} {v:Nat} {e:Int} (ho:v%2=1):Q2s (dy (sgn neg v) e)=neg:=by
 rw[Qbq (Q4n ho)];cases neg
 ·simp[Q2s,sgn]
 ·simp[Q2s,sgn];omega
theorem Qey {neg:Bool} {v:Nat} {e:Int} (ho:v%2=1):dyT (dy (sgn neg v) e)=Q2a neg v e:=by
 have h:=Q7x (neg:=neg) (e:=e) ho;rw[Qbq (Q4n ho)] at h⊢;simp only[Q2s] at h;simp only[dyT,h,Qa2,Int.neg_neg]
theorem Qez {neg:Bool} {v:Nat} {e:Int} (ho:v%2=1):Qmk (dy (sgn neg v) e)=dy (sgn false v) e:=by
 unfold Qmk;rw[Q7x ho];cases neg
 ·rfl
 ·rw[Uu rfl,Qgd];congr 1;simp[sgn]
theorem Qj9 (d:Dyadic):d=0∨∃(neg:Bool) (v:Nat) (e:Int),v%2=1/\d=dy (sgn neg v) e:=by
 cases d with
 |zero=>exact .inl rfl
 |ofOdd n k h=>
  refine .inr ⟨decide (n<0),n.natAbs,-k,by omega,?_⟩;have hs:sgn (decide (n<0)) n.natAbs=n:=by
   unfold sgn
   by_cases hn:n<0
   ·rw[Uu (by simpa using hn)];omega
   ·rw[Uq (by simpa using hn)];omega
  rw[hs,Qbq h,Int.neg_neg]
def At (s:LU) (p:Nat) (t:LU):Prop:=s.drop p=t
theorem At.byte {s:LU} {p:Nat} {c:UInt8} {t:LU} (h:At s p (c::t)):Q0n s p=c/\At s (p+1) t:=by
 unfold At at*;have hp:p<s.length:=by
  refine TR fun x5=>?_;rw[Tm x5] at h;cases h
 rw[UQ hp] at h;injection h with h1 h2;refine ⟨?_,h2⟩;unfold Q0n;rw[Tc,Ub hp];exact h1
theorem At.end_ {s:LU} {p:Nat} (h:At s p []):Q0n s p=0:=by
 unfold At at h;have hp:s.length<=p:=List.drop_eq_nil_iff.1 h;unfold Q0n;rw[Tc,Ta hp];rfl
theorem At.app {s:LU} {p:Nat} {t u:LU} (h:At s p (t++u)):At s (p+t.length) u:=by
 unfold At at*;rw[<-List.drop_drop,h,List.drop_left]
theorem At.len {s:LU} {p:Nat} {t:LU} (h:At s p t) (hp:p<=s.length):s.length=p+t.length:=by
 unfold At at h;have:=congrArg List.length h;rw[Th] at this;omega
theorem At.fixed {s:LU}:∀{t:LU} {p:Nat} {u:LU},At s p (t++u)->Q70 s t p=.ok (p+t.length)
 |[],p,u,_=>rfl
 |c::t,p,u,h=>by
  obtain ⟨h1,h2⟩:=At.byte (t:=t++u) h;rw[Q70,Uu h1,At.fixed h2];simp only[Ul]
  congr 1;omega
theorem At.skip0 {s:LU} {p:Nat} {c:UInt8} {t:LU} (h:At s p (c::t)) (hc:c≠32):Q0g s p=p:=Q95 (by rw[h.byte.1];exact hc)
theorem At.word {s:LU} {p:Nat} {t u:LU} (h:At s p (t++u)) (ha:Qir t) (hu:digN u=0):Q4f s p=p+t.length:=by
 unfold Q4f At at*;rw[h,Qex t u ha,hu,TD]
def Ql4 (u:LU):Prop:=digN u=0/\∀c r,u=c::r->c≠112
theorem Qsl (e:Int) {u:LU} (hu:Ql4 u):digN (Qa3 e++u)=0:=by
 unfold Qa3
 split
 ·exact hu.1
 ·show digN (112::_)=0
  rw[digN,Uq];decide
theorem Qml {s:LU} {p:Nat} {v:Nat} {e:Int} {u:LU} (h:At s p (Q2a false v e++u)) (hu:Ql4 u):Qsj s p=p+(Q2a false v e).length:=by
 have ht:Q2a false v e=dec v++Qa3 e:=rfl;rw[ht,UV] at h;rw[ht];have hw:=h.word (Q5o v) (Qsl e hu);have h2:=h.app;unfold Qsj;rw[hw];unfold Qa3 at h2⊢
 by_cases h0:e=0
 ·rw[Uu h0] at h2⊢;rw[Xaa] at h2;have C1:Q0n s (p+(dec v).length)≠112:=by
   cases u with
   |nil=>rw[h2.end_];decide
   |cons c r=>rw[h2.byte.1];exact hu.2 c r rfl
  rw[Uq C1,Xao]
 ·rw[Uq h0] at h2⊢;obtain ⟨h3,h4⟩:=At.byte (t:=(if e<0 then 45::dec e.natAbs else dec e.natAbs)++u) h2;rw[Uu h3]
  by_cases Q6:e<0
  ·rw[Uu Q6] at h4⊢;obtain ⟨h5,h6⟩:=At.byte (t:=dec e.natAbs++u) h4;rw[Uu h5,h6.word (Q5o _) hu.1];simp only[Ui,Ul];omega
  ·rw[Uq Q6] at h4⊢;have hd:=Q3k e.natAbs;have h5:Q0n s (p+(dec v).length+1)≠45:=by
    cases hc:dec e.natAbs with
    |nil=>rw[hc] at hd;simp at hd
    |cons c r=>
     rw[hc] at h4;have h6:=(At.byte (t:=r++u) h4).1;rw[h6];have:=Q5o e.natAbs c (by rw[hc];simp);rintro rfl;exact absurd this (by decide)
   rw[Uq h5,h4.word (Q5o _) hu.1];simp only[Ui,Ul];omega
theorem Qsm (c a b j:Nat) (h:a*b<=j) (hc:0<c):(c^a)^b<=c^j:=by
 rw[<-TW];exact UN hc h
theorem Qgp:(2^64)^64<=10^1300:=by
 have h1:((2:Nat)^64)^64=((2^64)^2)^32:=by rw[<-TW (2^64) 2 32]
 rw[h1];exact Uj (Xbk (show ((2:Nat)^64)^2<=10^40 by decide) 32) (Qsm 10 40 32 1300 (by decide) (by decide))
theorem Qbw (v:Nat) (e:Int):∃c r,Q2a false v e=c::r/\48<=c.toNat/\c.toNat<=57:=by
 have hd:=Q3k v;cases hc:dec v with
 |nil=>rw[hc] at hd;simp at hd
 |cons c r=>
  refine ⟨c,r++Qa3 e,?_,Q5o v c (by rw[hc];simp)⟩
  show dec v++Qa3 e=_
  rw[hc];rfl
theorem Qpc {s:LU} {p:Nat} {v:Nat} {e:Int} {u:LU} (h:At s p (Q2a false v e++u)) (hu:Ql4 u) (h1: -65536<=e) (h2:e<=65536) (hv:v<(2^64)^64) (h0:v=0->e=0) (hf:Q6i (dy (sgn false v) e)):
 Qyr s p=.ok (.num (some (dy (sgn false v) e)),p+(Q2a false v e).length):=by
 have hn:=Qml h hu;unfold Qyr;rw[hn,Xas];have ht:(s.drop p).take (Q2a false v e).length=Q2a false v e:=by
  unfold At at h;rw[h,List.take_left]
 rw[ht,Qp9 false v e h1 h2 (Uc hv Qgp) (fun h=>⟨rfl,h0 h⟩)];simp only;rw[Uu ((Q3w _).2 hf)]
def nb (u:LU):UInt8:=(u.drop (Q8g u)).headD 0
theorem At.nb {s:LU} {q:Nat} {u:LU} (h:At s q u):Q0n s (Q0g s q)=nb u:=by
 unfold At at h;unfold Q0g;rw[h];have h2:At s (q+Q8g u) (u.drop (Q8g u)):=by unfold At;rw[<-List.drop_drop,h]
 unfold Go.Proofs.YtidojbkhlenahaaGreatDoor.nb;cases hc:u.drop (Q8g u) with
 |nil=>rw[hc] at h2;exact h2.end_
 |cons c r=>rw[hc] at h2;exact h2.byte.1
def Ql5 (u:LU):Prop:=Ql4 u/\nb u≠94
def FR (most:Nat) (t:LU) (x:Ex):Prop:=(∃c r,t=c::r/\c≠32)/\∀(s:LU) (sub:Nat->PR Ex) (opens:Bool) (p:Nat) (u:LU),At s (Q0g s p) (t++u)->Ql5 u->∃q,Qbv sub opens s most p=.ok (x,q)/\Q0g s q=Q0g s (Q0g s p+t.length)
theorem Quy (most:Nat) {v:Nat} {e:Int} (h1: -65536<=e) (h2:e<=65536) (hv:v<(2^64)^64) (h0:v=0->e=0) (hf:Q6i (dy (sgn false v) e)):FR most (Q2a false v e) (.num (some (dy (sgn false v) e))):=by
 refine ⟨?_,fun s sub opens p u h hu=>?_⟩
 ·obtain ⟨c,r,hc,J1,_⟩:=Qbw v e;exact ⟨c,r,hc,fun e=>by rw[e] at J1;exact absurd J1 (by decide)⟩
 ·obtain ⟨c,r,hc,J1,I1⟩:=Qbw v e;have hb:Q0n s (Q0g s p)=c:=by
   have h':=h;rw[hc] at h';exact (At.byte (t:=r++u) h').1
  have hn:=Qpc h hu.1 h1 h2 hv h0 hf;have ha:Q0n s (Q0g s (Q0g s p+(Q2a false v e).length))=nb u:=(At.app h).nb;refine ⟨Q0g s (Q0g s p+(Q2a false v e).length),?_,Q96 _ _⟩;unfold Qbv Qsk;rw[hb,Uu ⟨J1,I1⟩,hn];simp only;rw[Uq (by rw[ha];exact hu.2)]
theorem Q8h {i:Nat} (h:i<10):dec i=[UInt8.ofNat (48+i)]:=Q1z h
theorem Qf0 {i:Nat} (h:i<10):(UInt8.ofNat (48+i)).toNat=48+i:=Q4x i h
theorem Ql6 {most i:Nat} (hi:i<9) (hm:i+1<=most) (s:LU) (sub:Nat->PR Ex) (opens:Bool) (p:Nat) (u:LU) (h:At s (Q0g s p) (120::(dec (i+1)++u))):Qsk sub opens s most p=.ok (.var i,Q0g s p+2):=by
 obtain ⟨h1,h2⟩:=h.byte;rw[Q8h (by omega)] at h2;obtain ⟨h3,h4⟩:=At.byte (t:=u) h2;unfold Qsk;rw[h1,Uq (by decide),Uu rfl,h3,Qf0 (by omega),Uu (by omega)]
 congr 2
 congr 1
 omega
theorem Qxe {most i:Nat} (hi:i<9) (hm:i+1<=most):FR most (120::dec (i+1)) (.var i):=by
 refine ⟨⟨_,_,rfl,by decide⟩,fun s sub opens p u h hu=>?_⟩;have hb:=Ql6 hi hm s sub opens p u h;have hl:(120::dec (i+1)).length=2:=by rw[Q8h (by omega)];rfl
 have ha:Q0n s (Q0g s (Q0g s p+(120::dec (i+1)).length))=nb u:=(At.app (t:=120::dec (i+1)) h).nb;rw[hl] at ha⊢;refine ⟨Q0g s (Q0g s p+2),?_,Q96 _ _⟩;unfold Qbv;rw[hb];simp only;rw[Uq (by rw[ha];exact hu.2)]
theorem Qxf {most i k:Nat} (hi:i<9) (hm:i+1<=most) (hk:k<=8):FR most (120::(dec (i+1)++94::dec k)) (.pow (.var i) k):=by
 refine ⟨⟨_,_,rfl,by decide⟩,fun s sub opens p u h hu=>?_⟩;have h':At s (Q0g s p) (120::(dec (i+1)++(94::(dec k++u)))):=by simpa using h
 have hb:=Ql6 hi hm s sub opens p _ h';have hl:(120::dec (i+1)).length=2:=by rw[Q8h (by omega)];rfl
 have O0:(120::(dec (i+1)++94::dec k)).length=4:=by rw[Q8h (by omega),Q8h (i:=k) (by omega)];rfl
 have h2:At s (Q0g s p+2) (94::(dec k++u)):=by
  have:=At.app (t:=120::dec (i+1)) (u:=94::(dec k++u)) h';rwa[hl] at this
 obtain ⟨h3,h4⟩:=h2.byte;have V8:=h2.skip0 (by decide);rw[Q8h (i:=k) (by omega)] at h4;obtain ⟨h5,h6⟩:=At.byte (t:=u) h4;have QP:=At.skip0 (t:=u) h4 (fun e=>by have:=congrArg UInt8.toNat e;rw[Qf0 (by omega)] at this;have h32:(32:UInt8).toNat=32:=rfl;omega);rw[O0];refine ⟨Q0g s p+4,?_,rfl⟩;unfold Qbv;rw[hb];simp only;rw[V8,Uu h3,QP,h5,Qf0 (by omega),Uu (by omega)]
 congr 2
 congr 1
 omega
def FRs (most:Nat):List (LU)->List Ex->Prop
 |[],[]=>True
 |t::ts,x::xs=>FR most t x/\FRs most ts xs
 |_,_=>False
theorem Qpd {most:Nat}:∀{ts us:List (LU)} {xs ys:List Ex},FRs most ts xs->FRs most us ys->FRs most (ts++us) (xs++ys)
 |[],_,[],_,_,h=>h
 |_::_,_,_::_,_,h,h'=>⟨h.1,Qpd h.2 h'⟩
 |[],_,_::_,_,h,_=>h.elim
 |_::_,_,[],_,h,_=>h.elim
theorem Qsn (t:LU):Ql5 (42::t):=⟨⟨by rw[digN,Uq];decide,fun c r h=>by injection h with h1 _;rw[<-h1];decide⟩,by simp[nb,Q8g]⟩
theorem Qbx {most:Nat} {s:LU} (sub:Nat->PR Ex) (opens:Bool) {u:LU} (hu:Ql5 u) (hs:nb u≠42):∀(ts:List (LU)) (xs:List Ex) (f p:Nat) (acc:List Ex),ts≠[]->FRs most ts xs->ts.length<=f->At s (Q0g s p) (Q2o ts++u)->
 Qmj sub opens s most f p acc=.ok (.prod (acc++xs),Q0g s (Q0g s p+(Q2o ts).length))
 |[],_,_,_,_,h,_,_,_=>absurd rfl h
 |[t],[x],f+1,p,acc,_,hf,_,h=>by
  obtain ⟨q,h1,h2⟩:=hf.1.2 s sub opens p u h hu;have ha:Q0n s (Q0g s (Q0g s p+t.length))=nb u:=(At.app (t:=t) h).nb;unfold Qmj;rw[h1];simp only;rw[h2,Uq (by rw[ha];exact hs)];rfl
 |t::t'::ts,x::xs,f+1,p,acc,_,hf,hl,h=>by
  have h':At s (Q0g s p) (t++(42::(Q2o (t'::ts)++u))):=by simpa[Q2o] using h
  obtain ⟨q,h1,h2⟩:=hf.1.2 s sub opens p _ h' (Qsn _);have h3:=At.app h';have h4:=h3.skip0 (by decide);obtain ⟨h5,h6⟩:=h3.byte;have C1:Q2o (t'::ts)++u≠[]/\Q0g s (Q0g s p+t.length+1)=Q0g s p+t.length+1:=by
   obtain ⟨c,r,hc,Wd⟩:∃c r,Q2o (t'::ts)++u=c::r/\c≠32:=by
    have U3:=hf.2;cases xs with
    |nil=>exact U3.elim
    |cons y ys=>
     obtain ⟨c,r,hc,Wd⟩:=U3.1.1;subst hc;cases ts with
     |nil=>exact ⟨c,r++u,rfl,Wd⟩
     |cons a b=>exact ⟨c,_,rfl,Wd⟩
   rw[hc] at h6⊢;exact ⟨by simp,h6.skip0 Wd⟩
  have ih:=Qbx sub opens hu hs (t'::ts) xs f (Q0g s p+t.length+1) (acc++[x]) (by simp) hf.2 (by simpa using hl) (by rw[C1.2];exact h6);unfold Qmj;rw[h1];simp only;rw[h2,h4,Uu h5,ih,C1.2];simp only[Q2o,Ui,Ul,UV,List.singleton_append]
  congr 3;omega
 |[t],[],_,_,_,_,hf,_,_=>hf.elim
 |_::_::_,[],_,_,_,_,hf,_,_=>hf.elim
 |[t],_::_::_,_,_,_,_,hf,_,_=>hf.2.elim
 |_::_,_,0,_,_,_,_,hl,_=>by simp at hl
def facE (i:Nat) (k:Int):List Ex:=if k=1 then [.var i] else if 1<k then [.pow (.var i) k.toNat] else []
def Qso:Nat->List Int->List Ex
 |_,[]=>[]
 |i,k::r=>facE i k++Qso (i+1) r
def Qja (p:Q0m):List Ex:=if Q1b 0 p.2=[]∨Qmk p.1≠1 then .num (some (Qmk p.1))::Qso 0 p.2 else Qso 0 p.2
def Qx4 (p:Q0m):Bool × Ex:=(Q2s p.1,.prod (Qja p))
def Qgq (P:List Q0m):Ex:=if P=[] then .sum [(false,.prod [.num (some 0)])] else .sum (P.map Qx4)
theorem Qf1 {most:Nat}:∀(i:Nat) (E:List Int),i+E.length<=most->most<=9->(∀x∈E,0<=x/\x<=8)->FRs most (Q1b i E) (Qso i E)
 |_,[],_,_,_=>trivial
 |i,k::r,h,hm,hk=>by
  have ih:=Qf1 (i+1) r (by simp only[Ul] at h;omega) hm (fun x hx=>hk x (by simp[hx]));have S3:=hk k (by simp);refine Qpd ?_ ih;simp only[Ul] at h;unfold Qal facE
  split
  ·exact ⟨Qxe (by omega) (by omega),trivial⟩
  ·split
   ·exact ⟨Qxf (by omega) (by omega) (by omega),trivial⟩
   ·trivial
theorem Q7y:∀{E:List Int},(∀x∈E,0<=x)->0<=E.sum/\∀x∈E,x<=E.sum
 |[],_=>⟨by simp,fun x hx=>by cases hx⟩
 |a::E,h=>by
  obtain ⟨h1,h2⟩:=Q7y (E:=E) (fun x hx=>h x (by simp[hx]));have h3:=h a (by simp);rw[Xa8];refine ⟨by omega,fun x hx=>?_⟩;rcases UD.1 hx with rfl|hx
  ·omega
  ·have:=h2 x hx;omega
theorem Q3p {n:Nat} {E:List Int} (h:Q1l n E):∀x∈E,0<=x/\x<=8:=fun x hx=>by
 have h1:=(Q7y h.2.1).2 x hx;have h2:=h.2.1 x hx;have h3:=h.2.2;omega
theorem Qxg (most:Nat) {d:Dyadic} (h0:d≠0) (hf:Q6i d):FR most (dyT (Qmk d)) (.num (some (Qmk d))):=by
 rcases Qj9 d with rfl|⟨neg,v,e,ho,rfl⟩
 ·exact absurd rfl h0
 ·rw[Qez ho];rw[Qey ho];obtain ⟨h1,h2,h3⟩:=(Q6j (neg:=neg) ho).1 hf;exact Quy most h2 h3 h1 (fun h=>by omega) ((Q6j (neg:=false) ho).2 ⟨h1,h2,h3⟩)
theorem Qgr {n most:Nat} {p:Q0m} (h0:p.1≠0) (h:Qgi n p) (hn:n<=most) (hm:most<=9):FRs most (Q3o p) (Qja p)/\Q3o p≠[]:=by
 have h1:=Qf1 (most:=most) 0 p.2 (by rw[h.2.1];omega) hm (Q3p h.2);unfold Q3o Qja
 split
 ·exact ⟨⟨Qxg most h0 h.1,h1⟩,by simp⟩
 ·rename_i hc;exact ⟨h1,fun e=>hc (.inl e)⟩
theorem Qpe {most:Nat}:∀{ts:List (LU)} {xs:List Ex},FRs most ts xs->ts.length<=(Q2o ts).length
 |[],_,_=>by simp
 |[t],[x],h=>by
  obtain ⟨c,r,hc,_⟩:=h.1.1;simp only[Q2o,hc,Ul,UP];omega
 |t::t'::ts,x::xs,h=>by
  have ih:=Qpe h.2;simp only[Q2o,Ui,Ul] at ih⊢;omega
 |[_],[],h=>h.elim
 |_::_::_,[],h=>h.elim
 |[_],_::_::_,h=>h.2.elim
def Qf2 (u:LU):Prop:=Ql5 u/\nb u≠42
theorem Qgs {n most:Nat} {p0:Q0m} (h0:p0.1≠0) (h:Qgi n p0) (hn:n<=most) (hm:most<=9) {s:LU} (sub:Nat->PR Ex) (opens:Bool) {u:LU} (hu:Qf2 u) {p:Nat} (hp:p<=s.length) (ha:At s (Q0g s p) (Q1t p0++u)):
 Qmj sub opens s most (s.length+1) p []=.ok (.prod (Qja p0),Q0g s (Q0g s p+(Q1t p0).length)):=by
 obtain ⟨h1,h2⟩:=Qgr h0 h hn hm;have h3:=Qpe h1;have h4:=ha.len (Qvh hp);have h5:=Qbx sub opens hu.1 hu.2 (Q3o p0) (Qja p0) (s.length+1) p [] h2 h1 (by
  have h6:(Q1t p0++u).length=(Q2o (Q3o p0)).length+u.length:=by rw[Ui];rfl
  rw[h6] at h4;omega) ha
 rw[Xaa] at h5;exact h5
theorem Qsp (c:UInt8) (t:LU) (hc:c≠32) (I1:c≠94) (Zj:c≠42):Qf2 (32::c::t):=by
 have hn:nb (32::c::t)=c:=by simp[nb,Q8g,hc]
 refine ⟨⟨⟨by rw[digN,Uq];decide,fun x r h=>by injection h with h1 _;rw[<-h1];decide⟩,by rw[hn];exact I1⟩,by rw[hn];exact Zj⟩
theorem Ql7 {n most:Nat} (hn:n<=most) (hm:most<=9) {s:LU} (sub:Nat->PR Ex) (opens:Bool) {u:LU} (hu:Qf2 u) (Zr:nb u≠43) (Ze:nb u≠45):
 ∀(r:List Q0m) (p0:Q0m) (f p:Nat) (below:Bool) (acc:List (Bool × Ex)),(∀q∈p0::r,q.1≠0/\Qgi n q)->r.length<f->p<=s.length->At s (Q0g s p) (Q1t p0++(Q0w false r++u))->
 Quw sub opens s most f p below acc=.ok (.sum (acc++(below,.prod (Qja p0))::r.map Qx4),Q0g s (Q0g s p+(Q1t p0++Q0w false r).length))
 |[],p0,f+1,p,below,acc,hr,_,hp,ha=>by
  have ht:=Qgs (hr p0 (by simp)).1 (hr p0 (by simp)).2 hn hm sub opens hu hp ha;have hb:Q0n s (Q0g s (Q0g s p+(Q1t p0).length))=nb u:=(At.app (t:=Q1t p0) ha).nb;unfold Quw;rw[ht];simp only;rw[Q96,hb,Uq Zr,Uq Ze];simp[Q0w]
 |q::r,p0,f+1,p,below,acc,hr,hl,hp,ha=>by
  obtain ⟨c,hc,Y3,I1⟩:∃c:UInt8,Q30 false q=[32,c,32]/\(c=43/\Q2s q.1=false∨c=45/\Q2s q.1=true)/\c≠32:=by
   unfold Q30;rw[Uq (by decide)];cases hb:Q2s q.1
   ·exact ⟨43,by rw[Uq (by decide)],.inl ⟨rfl,rfl⟩,by decide⟩
   ·exact ⟨45,by rw[Uu rfl],.inr ⟨rfl,rfl⟩,by decide⟩
  have ha':At s (Q0g s p) (Q1t p0++(32::c::(32::(Q1t q++(Q0w false r++u))))):=by
   have e:Q0w false (q::r)++u=32::c::(32::(Q1t q++(Q0w false r++u))):=by
    rw[Q0w,hc];simp
   rw[<-e];exact ha
  have ht:=Qgs (hr p0 (by simp)).1 (hr p0 (by simp)).2 hn hm sub opens (Qsp c _ I1 (by rcases Y3 with ⟨rfl,_⟩|⟨rfl,_⟩ <;> decide) (by rcases Y3 with ⟨rfl,_⟩|⟨rfl,_⟩ <;> decide)) hp ha';have h1:=At.app ha';obtain ⟨h2,h3⟩:=h1.byte;have h4:Q0g s (Q0g s p+(Q1t p0).length)=Q0g s p+(Q1t p0).length+1:=by rw[Q7w h2];exact h3.skip0 I1
  obtain ⟨h5,h6⟩:=h3.byte;obtain ⟨h7,h8⟩:=h6.byte;have R0:Q0g s (Q0g s p+(Q1t p0).length+1+1)=Q0g s p+(Q1t p0).length+1+1+1:=by
   rw[Q7w h7];obtain ⟨j3,U3⟩:=Qgr (hr q (by simp)).1 (hr q (by simp)).2 hn hm;obtain ⟨x,y,hx,JJ⟩:∃x y,Q1t q++(Q0w false r++u)=x::y/\x≠32:=by
    unfold Q1t;cases VV:Q3o q with
    |nil=>exact absurd VV U3
    |cons t ts=>
     rw[VV] at j3;cases hte:Qja q with
     |nil=>rw[hte] at j3;exact j3.elim
     |cons z zs=>
      rw[hte] at j3;obtain ⟨x,y,hx,JJ⟩:=j3.1.1;subst hx;cases ts with
      |nil=>exact ⟨x,_,rfl,JJ⟩
      |cons a b=>exact ⟨x,_,rfl,JJ⟩
   rw[hx] at h8;exact h8.skip0 JJ
  have O0:=Q94 h5 (by rcases Y3 with ⟨rfl,_⟩|⟨rfl,_⟩ <;> decide);have Z6:r.length<f:=by simp only[Ul] at hl;omega
  have Kw:Q0g s p+(Q1t p0).length+1+1<=s.length:=O0;have ih:=fun (b:Bool) (acc':List (Bool × Ex))=>Ql7 hn hm sub opens hu Zr Ze r q f (Q0g s p+(Q1t p0).length+1+1) b acc' (fun x hx=>hr x (by simp only[UD] at hx⊢;exact .inr hx)) Z6 Kw (by rw[R0];exact h8);have I2:Q0g s (Q0g s p+(Q1t p0).length+1+1+1+(Q1t q++Q0w false r).length)=Q0g s (Q0g s p+(Q1t p0++Q0w false (q::r)).length):=by
   congr 1
   simp only[Q0w,hc,Ui,Ul,UP];omega
  unfold Quw;rw[ht];simp only;rw[Q96,h4,h5];rcases Y3 with ⟨rfl,hb⟩|⟨rfl,hb⟩
  ·rw[Uu rfl,ih,R0,I2];simp[Qx4,hb]
  ·rw[Uq (by decide),Uu rfl,ih,R0,I2];simp[Qx4,hb]
 |_,_,0,_,_,_,_,hl,_,_=>by simp at hl
theorem Qsq (t:LU):Qf2 (10::t)/\nb (10::t)=10/\Q8g (10::t)=0:=by
 have hn:nb (10::t)=10:=by simp[nb,Q8g]
 exact ⟨⟨⟨⟨by rw[digN,Uq];decide,fun x r h=>by injection h with h1 _;rw[<-h1];decide⟩,by rw[hn];decide⟩,by rw[hn];decide⟩,hn,by simp[Q8g]⟩
theorem Qdv {n most:Nat} {q:Q0m} (h0:q.1≠0) (h:Qgi n q) (hn:n<=most) (hm:most<=9):∃x y,Q1t q=x::y/\x≠32/\x≠45:=by
 unfold Q1t Q3o
 split
 ·rcases Qj9 q.1 with h1|⟨neg,v,e,ho,h1⟩
  ·exact absurd h1 h0
  ·rw[h1,Qez ho,Qey ho];obtain ⟨c,r,hc,J1,I1⟩:=Qbw v e;rw[hc];have a1:c≠32:=fun e=>by rw[e] at J1;exact absurd J1 (by decide)
   have a2:c≠45:=fun e=>by rw[e] at J1;exact absurd J1 (by decide)
   cases Q1b 0 q.2 with
   |nil=>exact ⟨c,r,rfl,a1,a2⟩
   |cons t ts=>exact ⟨c,_,rfl,a1,a2⟩
 ·rename_i hc;have h1:=Qf1 (most:=most) 0 q.2 (by rw[h.2.1];omega) hm (Q3p h.2);have hx:∀(i:Nat) (E:List Int) t ts,Q1b i E=t::ts->∃r,t=120::r:=by
   intro i E
   induction E generalizing i with
   |nil=>intro t ts h;cases h
   |cons k r ih=>
    intro t ts h;simp only[Q1b,Qal] at h
    split at h
    ·injection h with h _;exact ⟨_,h.symm⟩
    ·split at h
     ·injection h with h _;exact ⟨_,h.symm⟩
     ·exact ih (i+1) t ts h
  cases hp:Q1b 0 q.2 with
  |nil=>exact absurd (.inl hp) hc
  |cons t ts=>
   obtain ⟨r,rfl⟩:=hx 0 q.2 t ts hp;cases ts with
   |nil=>exact ⟨120,r,rfl,by decide,by decide⟩
   |cons a b=>exact ⟨120,_,rfl,by decide,by decide⟩
theorem Qjb:dyT 0=[48]:=rfl
theorem Qpf {n most:Nat} (hn:n<=most) (hm:most<=9) {s:LU} (sub:Nat->PR Ex) (opens:Bool) {P:List Q0m} (hP:Q92 n P) {p0 p:Nat} (KN:Q0g s p0=p) (hp:p<=s.length) {t:LU} (h2:At s p (Q5p P++10::t)):
 Qj8 sub opens s most p0=.ok (Qgq P,p+(Q5p P).length):=by
 obtain ⟨Wl,Q5,he3⟩:=Qsq t;cases P with
 |nil=>
  have Jk:At s p (Q2a false 0 0++10::t):=by
   have e:Q2a false 0 0=[48]:=(by simp[Q2a,Qa3,Q1z]);rw[e];exact h2
  have e:(Q2a false 0 0).length=1:=by simp[Q2a,Qa3,Q1z]
  have j6:=Quy most (v:=0) (e:=0) (by decide) (by decide) (by decide) (fun _=>rfl) (by exact Qgh);have h3:=Qbx sub opens Wl.1 Wl.2 [Q2a false 0 0] [.num (some 0)] (s.length+1) p [] (by simp) ⟨j6,trivial⟩ (by simp) (by rw[h2.skip0 (by decide)];exact Jk);rw[h2.skip0 (by decide)] at h3;have h4:At s (p+1) (10::t):=by have:=At.app Jk;rwa[e] at this
  have h5:=h4.skip0 (by decide);simp only[Q2o,e,h5,Xaa] at h3;unfold Qj8;rw[KN,h2.byte.1,Uq (by decide),Quw,h3];simp only;rw[h5,h4.byte.1,Uq (by decide),Uq (by decide)];rfl
 |cons q r=>
  have hq:=hP.2.2 q (by simp);obtain ⟨x,y,hx,JJ,hx45⟩:=Qdv hq.1 hq.2 hn hm;have O0:=h2.len hp;have Xq:r.length<s.length+1:=by
   have:∀(l:List Q0m),l.length<=(Q0w false l).length:=fun l=>by
    induction l with
    |nil=>simp
    |cons a l ih=>
     have:1<=(Q30 false a).length:=(by unfold Q30;rw[Uq (by decide)];split <;> simp);simp only[Q0w,Ui,Ul];omega
   have h9:=this r;simp only[Q5p,Q0w,Ui,Ul,reduceCtorEq,Xbs] at O0;omega
  have R0:=fun (b:Bool) (f':Nat) (h:At s (Q0g s f') (Q1t q++(Q0w false r++10::t))) (hf:f'<=s.length)=>Ql7 hn hm sub opens Wl (by rw[Q5];decide) (by rw[Q5];decide) r q (s.length+1) f' b [] hP.2.2 Xq hf h;have VV:Q5p (q::r)=Q30 true q++(Q1t q++Q0w false r):=by simp[Q5p,Q0w]
  rw[VV] at h2⊢;have Yb:∀p',At s p' (Q1t q++(Q0w false r++10::t))->Q0g s (p'+(Q1t q++Q0w false r).length)=p'+(Q1t q++Q0w false r).length:=fun p' h=>by
   have h':At s p' ((Q1t q++Q0w false r)++10::t):=(by rw[UV];exact h);exact (At.app h').skip0 (by decide)
  cases K4:Q2s q.1
  ·have o4:Q30 true q=[]:=(by simp[Q30,K4]);rw[o4,Xaa] at h2;rw[o4,Xaa];have Jk:At s p (Q1t q++(Q0w false r++10::t)):=(by rw[<-UV];exact h2);have h3:At s p (x::(y++(Q0w false r++10::t))):=(by rw[hx] at Jk;exact Jk);have B5:=h3.skip0 JJ;unfold Qj8;rw[KN,h3.byte.1,Uq hx45,R0 false p (by rw[B5];exact Jk) (by omega),B5,Yb _ Jk];simp[Qgq,Qx4,K4]
  ·have o4:Q30 true q=[45]:=(by simp[Q30,K4]);rw[o4] at h2⊢;have h2'':At s p (45::(Q1t q++(Q0w false r++10::t))):=(by simpa using h2);obtain ⟨h6,Jk⟩:=h2''.byte;have F0:=Q94 h6 (by decide);have h3:At s (p+1) (x::(y++(Q0w false r++10::t))):=(by rw[hx] at Jk;exact Jk);have B5:=h3.skip0 JJ;unfold Qj8;rw[KN,h6,Uu rfl,R0 true (p+1) (by rw[B5];exact Jk) (by omega),B5,Yb _ Jk];simp only[Qgq,Qx4,K4,Xaa,Xa1,reduceCtorEq,Xbs,Ui,Ul,UP]
   congr 2
   omega
theorem Qsr:Q6i 1:=(Q3w 1).1 (by decide)
theorem Qxh:(1:Dyadic)≠0:=by decide
def Ql8 (n i:Nat) (k:Int):List Int:=(List.replicate n 0).set i k
theorem Qgt:∀(n i:Nat) (k:Int),i<n->(Ql8 n i k).sum=k
 |n+1,0,k,_=>by simp[Ql8,List.replicate_succ]
 |n+1,i+1,k,h=>by
  have:=Qgt n i k (by omega);unfold Ql8 at*;rw[List.replicate_succ,Ut,Xa8,this];omega
theorem Qss {E:List Int} (h:∀x∈E,0<=x) (i:Nat):0<=(E.take i).sum/\(E.take i).sum<=E.sum:=by
 have h1:=(Q7y (E:=E.take i) (fun x hx=>h x (Td hx))).1;have h2:=(Q7y (E:=E.drop i) (fun x hx=>h x (Xbg hx))).1;have h3:E.sum=(E.take i).sum+(E.drop i).sum:=by
  conv=>lhs;rw[<-Xbc i E]
  rw[List.sum_append]
 omega
theorem Q7z (i:Nat) (hi:i<9):(Q5z i).length=6:=by rw[Q5z,Q8h (by omega)];rfl
theorem Qpg {n most i:Nat} (hn:n<=most) (hm:most<=9) {s:LU} {P:List Q0m} (hP:Q92 n P) {p:Nat} {t:LU} (ha:At s p (Q5q i P++t)) (hp:p<=s.length):Qvi s most i p=.ok (Qgq P,p+(Q5q i P).length):=by
 have h1:At s p (Q5z i++(Q5p P++10::t)):=by simpa[Q5q] using ha
 have h2:=At.fixed h1;have h3:=At.app h1;have O0:=h1.len hp;rw[Ui] at O0;have KN:Q0g s (p+(Q5z i).length)=p+(Q5z i).length:=by
  cases P with
  |nil=>exact At.skip0 (t:=10::t) h3 (by decide)
  |cons q r=>
   have hq:=hP.2.2 q (by simp);obtain ⟨x,y,hx,JJ,hx45⟩:=Qdv (most:=most) hq.1 hq.2 hn hm;cases hb:Q2s q.1
   ·have e:Q5p (q::r)=x::(y++Q0w false r):=(by simp[Q5p,Q0w,Q30,hb,hx]);rw[e] at h3;exact At.skip0 (t:=(y++Q0w false r)++10::t) h3 JJ
   ·have e:Q5p (q::r)=45::(Q1t q++Q0w false r):=(by simp[Q5p,Q0w,Q30,hb]);rw[e] at h3;exact At.skip0 (t:=(Q1t q++Q0w false r)++10::t) h3 (by decide)
 have h4:=Qpf hn hm (Qpa s most 15) true hP KN (by omega) h3;have h5:=At.app h3;have h6:=h5.skip0 (by decide);unfold Qvi;rw[h2];simp only;rw[show Qpa s most 16=Qj8 (Qpa s most 15) true s most from rfl,h4];simp only;rw[h6,Uu h5.byte.1]
 congr 2
 simp only[Q5q,Ui,Ul,UP];omega
theorem Qmm {n most:Nat} (hn:n<=most) (hm:most<=9) {s:LU}:∀(F:List (List Q0m)) (f p:Nat) (acc:List (Nat × Ex)),F≠[]->F.length<=f->(∀P∈F,Q92 n P)->p<=s.length->At s p (Q1d acc.length F)->
 ∃ls:List (Nat × Ex),Qpb s most f p acc=.ok (acc++ls)/\ls.map (·.2)=F.map Qgq
 |[],_,_,_,h,_,_,_,_=>absurd rfl h
 |P::F,f+1,p,acc,_,hf,hr,hp,ha=>by
  have h1:=Qpg hn hm (hr P (by simp)) (t:=Q1d (acc.length+1) F) ha hp;have h2:=At.app (t:=Q5q acc.length P) ha;have hlen0:=At.len (t:=Q5q acc.length P++Q1d (acc.length+1) F) ha hp;rw[Ui] at hlen0;have Kw:p+(Q5q acc.length P).length<=s.length:=by omega
  have O0:=h2.len Kw;unfold Qpb;rw[h1];simp only;cases F with
  |nil=>
   simp only[Q1d,UP] at O0;rw[Uq (by omega)];exact ⟨[(p,Qgq P)],rfl,rfl⟩
  |cons Q F=>
   have p6:0<(Q1d (acc.length+1) (Q::F)).length:=by
    simp only[Q1d,Q5q,Q5z,Ui,Ul];omega
   rw[Uu (by omega)];obtain ⟨ls,h3,h4⟩:=Qmm hn hm (Q::F) f (p+(Q5q acc.length P).length) (acc++[(p,Qgq P)]) (by simp) (by simpa using hf) (fun x hx=>hr x (by simp only[UD] at hx⊢;exact .inr hx)) Kw (by rw[Ui];exact h2);refine ⟨(p,Qgq P)::ls,?_,by simp[h4]⟩;rw[h3,UV];rfl
 |_::_,0,_,_,_,h,_,_,_=>by simp at h
theorem Q60 (n:Nat):(dec n).count 10=0:=by
 rw[List.count_eq_zero];intro h;have:=Q5o n 10 h;exact absurd this (by decide)
theorem Qjc (neg:Bool) (v:Nat) (e:Int):(Q2a neg v e).count 10=0:=by
 unfold Q2a Qa3;have h1:=Q60 v;have h2:=Q60 e.natAbs;have h3:(if e<0 then 45::dec e.natAbs else dec e.natAbs).count 10=0:=by split <;> simp[h2]
 have h4:(if e=0 then [] else 112::(if e<0 then 45::dec e.natAbs else dec e.natAbs)).count 10=0:=by
  split
  ·rfl
  ·rw[Xbd,h3];rfl
 rw[Xag,Xag,h1,h4];cases neg <;> rfl
theorem Qph (d:Dyadic):(dyT d).count 10=0:=by
 cases d with
 |zero=>decide
 |ofOdd n k h=>exact Qjc _ _ _
theorem Q8i:∀(i:Nat) (E:List Int),∀t∈Q1b i E,t.count 10=0
 |_,[],_,h=>by cases h
 |i,k::r,t,h=>by
  have h1:=Q60 (i+1);have h2:=Q60 k.toNat;rw[Q1b] at h;rcases Tl.1 h with h|h
  ·unfold Qal at h
   split at h
   ·rw[Uy] at h;subst h;rw[Xbd,h1];rfl
   ·split at h
    ·rw[Uy] at h;subst h;rw[Xbd,Xag,Xbd,h1,h2];rfl
    ·cases h
  ·exact Q8i (i+1) r t h
theorem Qby:∀(l:List (LU)),(∀t∈l,t.count 10=0)->(Q2o l).count 10=0
 |[],_=>rfl
 |[x],h=>h x (by simp)
 |x::y::r,h=>by
  have h1:=h x (by simp);have ih:=Qby (y::r) (fun t ht=>h t (by simp only[UD] at ht⊢;exact .inr ht));rw[Q2o,Xag,Xbd,h1,ih];rfl
theorem Qjd (p:Q0m):(Q1t p).count 10=0:=by
 refine Qby _ fun t ht=>?_;unfold Q3o at ht
 split at ht
 ·rcases UD.1 ht with rfl|ht
  ·exact Qph _
  ·exact Q8i _ _ t ht
 ·exact Q8i _ _ t ht
theorem Qam:∀(b:Bool) (l:List Q0m),(Q0w b l).count 10=0
 |_,[]=>rfl
 |b,p::r=>by
  have h1:(Q30 b p).count 10=0:=by unfold Q30;split <;> split <;> decide
  rw[Q0w,Xag,Xag,h1,Qjd,Qam false r]
theorem Qst (P:List Q0m):(Q5p P).count 10=0:=by
 unfold Q5p
 split
 ·decide
 ·exact Qam _ _
theorem Qsu (i:Nat) (P:List Q0m):(Q5q i P).count 10=1:=by
 rw[Q5q,Q5z,Xag,Xbd,Xag,Xag,Qst,Q60];rfl
theorem Qgu:∀(i:Nat) (F:List (List Q0m)),(Q1d i F).count 10=F.length
 |_,[]=>rfl
 |i,P::F=>by rw[Q1d,Xag,Qsu,Qgu (i+1) F,Ul];omega
def Qf3 (b:UInt8):LU->Option (LU × LU)
 |[]=>none
 |c::r=>if c=b then some ([],r) else (Qf3 b r).map fun p=>(c::p.1,p.2)
def Q97 (s:LU) (p:Nat):Option (LU):=(Qf3 10 (s.drop p)).map Prod.fst
def Q6n (w l:LU):Option (LU):=if (w++[32]).isPrefixOf l=true then some (l.drop (w.length+1)) else none
def Q37 (t:LU):Option Nat:=if 1<=t.length/\t.length<=4/\t.headD 0≠48/\digN t=t.length then some (dv t) else none
def Qgv (t:LU):Option (Option Dyadic):=
 match form t with
 |none=>none
 |some (neg,v,e)=>some (if Qau (dy (sgn neg v) e)=true then some (dy (sgn neg v) e) else none)
def Qbz:LU:=[112,114,101,99]
def Q7d:LU:=[111,114,100,101,114]
def Q54:LU:=[98,117,100,103,101,116]
def Q7e:LU:=[117,110,116,105,108]
def Qc0:LU:=[109,111,115,116]
def Q7f:LU:=[108,101,97,115,116]
def Ql9:LU:=[98,111,120]
structure PrS where
 prec:Nat
 order:Nat
 budget:Nat
 til:Option Dyadic
 most:Option Dyadic
 least:Option Dyadic
 box:List (Option Dyadic × Option Dyadic)
 over:Option Nat
def PrS.empty:PrS:=⟨0,0,0,some 0,some 0,some 0,[],none⟩
def Q61 (o:Option Nat) (p:Nat) (d:Option Dyadic):Option Nat:=
 match o,d with
 |some q,_=>some q
 |none,some _=>none
 |none,none=>some p
def Qis (l:LU):Option (Option Dyadic × Option Dyadic):=
 match (Q6n Ql9 l).bind (Qf3 32) with
 |none=>none
 |some (lo,hi)=>match Qgv lo,Qgv hi with
  |some x,some y=>some (x,y)
  |_,_=>none
def Qaw (i p:Nat) (l:LU) (st:PrS):Option PrS:=
 match i with
 |0=>((Q6n Qbz l).bind Q37).map fun n=>{ st with prec:=n }
 |1=>((Q6n Q7d l).bind Q37).map fun n=>{ st with order:=n }
 |2=>((Q6n Q54 l).bind Q37).map fun n=>{ st with budget:=n }
 |3=>((Q6n Q7e l).bind Qgv).map fun d=>{ st with til:=d,over:=Q61 st.over p d }
 |4=>((Q6n Qc0 l).bind Qgv).map fun d=>{ st with most:=d,over:=Q61 st.over p d }
 |5=>((Q6n Q7f l).bind Qgv).map fun d=>{ st with least:=d,over:=Q61 st.over p d }
 |_=>if st.box.length<4 then (Qis l).map fun b=>{ st with box:=st.box++[b],over:=Q61 (Q61 st.over p b.1) p b.2 } else none
def Qla (s:LU):Nat->Nat->Nat->PrS->Except (Nat × Int) (Nat × PrS)
 |0,_,p,_=>.error (p,5)
 |f+1,i,p,st=>
  match Q97 s p with
  |none=>if i<=6 then .error (s.length,5) else .ok (p,st)
  |some l=>match Qaw i p l st with
   |none=>if 6<i then .ok (p,st) else .error (p,5)
   |some st'=>Qla s f (i+1) (p+l.length+1) st'
structure Qgw where
 field:List (List Q0m)
 box:List (Dyadic × Dyadic)
 til:Dyadic
 most:Dyadic
 least:Dyadic
 prec:Nat
 order:Nat
 budget:Nat
def PrS.prob (st:PrS) (F:List (List Q0m)):Qgw:=⟨F,st.box.map fun b=>(b.1.getD 0,b.2.getD 0),st.til.getD 0,st.most.getD 0,st.least.getD 0,st.prec,st.order,st.budget⟩
def Q6o (d:Dyadic):Prop:=d≠0/\Q2s d=false
def Q9x (x y:Dyadic):Prop:=Q2s (y-x)=false
structure Qpi (p:Qgw):Prop where
 field:Qux p.field
 box:∀b∈p.box,Q6i b.1/\Q6i b.2/\Q9x b.1 b.2
 same:p.box.length=p.field.length
 til:Q6i p.til/\Q6o p.til
 most:Q6i p.most/\Q6o p.most
 least:Q6i p.least/\Q6o p.least
 ord:Q9x p.least p.most
 prec:8<=p.prec/\p.prec<=256
 order:2<=p.order/\p.order<=10
 budget:1<=p.budget/\p.budget<=4096
def Q2t (w t:LU):LU:=w++32::(t++[10])
def Q98:List (Dyadic × Dyadic)->LU
 |[]=>[]
 |b::r=>Q2t Ql9 (dyT b.1++32::dyT b.2)++Q98 r
def Qmn (p:Qgw):LU:=
 Q2t Qbz (dec p.prec)++(Q2t Q7d (dec p.order)++(Q2t Q54 (dec p.budget)++(Q2t Q7e (dyT p.til)++(Q2t Qc0 (dyT p.most)++(Q2t Q7f (dyT p.least)++(Q98 p.box++Q1d 0 p.field))))))
theorem Qlb:∀v:Nat,v≠0->∃z u,u%2=1/\v=u*2^z:=by
 intro v
 induction v using Nat.strongRecOn with
 |ind v ih=>
  intro h
  by_cases ho:v%2=1
  ·exact ⟨0,v,ho,by simp⟩
  ·obtain ⟨z,u,hu,he⟩:=ih (v / 2) (by omega) (by omega);exact ⟨z+1,u,hu,by rw[Tb,<-UJ,<-he];omega⟩
theorem Q4g (n e:Int):Q2s (dy n e)=decide (n<0):=by
 by_cases h0:n=0
 ·subst h0;rfl
 obtain ⟨z,u,hu,he⟩:=Qlb n.natAbs (by omega);have hn:n=sgn (decide (n<0)) n.natAbs:=by
  unfold sgn
  by_cases h:n<0
  ·rw[Uu (by simpa using h)];omega
  ·rw[Uq (by simpa using h)];omega
 have h1:dy n e=dy (sgn (decide (n<0)) u) (e+z):=by
  rw[Q88,Q3i,<-he,<-hn]
 rw[h1,Q7x hu]
theorem Q4h (n m e:Int):Q2s (dy n e-dy m e)=decide (n<m):=by
 have h1:dy n e-dy m e=dy (n-m) e:=by
  rw[show n-m=n+ -m by omega,<-Qdr,<-Qgd]
  grind
 rw[h1,Q4g]
 by_cases h:n<m
 ·rw[UW h,UW (by omega)]
 ·rw[UU h,UU (by omega)]
def Q3x (r:Int) (x y:Dyadic):Prop:=(r<0↔Q2s (x-y)=true)/\(0<r↔Q2s (y-x)=true)
theorem Q99 {r n m e f:Int} {k:Nat} (h:e=f+k):Q3x r (dy n e) (dy m f)↔(r<0↔n*2^k<m)/\(0<r↔m<n*2^k):=by
 unfold Q3x;subst h;rw[Q88,Q4h,Q4h,TC,TC]
theorem Q9a {r n m e f:Int} {k:Nat} (h:f=e+k):Q3x r (dy n e) (dy m f)↔(r<0↔n<m*2^k)/\(0<r↔m*2^k<n):=by
 unfold Q3x;subst h;rw[Q88,Q4h,Q4h,TC,TC]
theorem Q7g {neg:Bool} {v:Nat} (h:v≠0) (k:Nat):(sgn neg v*2^k<0↔neg=true)/\(0<sgn neg v*2^k↔neg=false):=by
 rw[Q3i];have hp:0<v*2^k:=Nat.mul_pos (by omega) (Nat.two_pow_pos k);generalize v*2^k=x at*;unfold sgn;cases neg <;> simp <;> omega
def Qa4 (neg:Bool) (v:Nat):Int:=if v=0 then 0 else if neg=true then -1 else 1
theorem Qdw {na nb:Bool} {va vb:Nat} {ea eb r:Int} (h:Qa4 na va≠Qa4 nb vb∨Qa4 na va=0) (hr:(r<0↔Qa4 na va<Qa4 nb vb)/\(0<r↔Qa4 nb vb<Qa4 na va)):Q3x r (dy (sgn na va) ea) (dy (sgn nb vb) eb):=by
 have hz:∀(n:Bool) (k:Nat),sgn n 0*2^k=0:=fun n k=>by rw[Q2z];simp
 have E2:∀(n:Bool),sgn n 0=0:=Q2z;rcases Int.le_total eb ea with x5|x5
 ·obtain ⟨k,hk⟩:∃k:Nat,ea=eb+k:=⟨(ea-eb).toNat,by omega⟩;rw[Q99 hk]
  by_cases ha:va=0 <;> by_cases hb:vb=0
  ·subst ha hb;rw[hz,E2];simp[Qa4] at hr⊢;exact hr
  ·subst ha;have h2:=Q7g (neg:=nb) hb 0;rw[Int.pow_zero,Int.mul_one] at h2;rw[hz];cases nb <;> simp[Qa4,hb] at hr h2⊢<;> omega
  ·subst hb;have h1:=Q7g (neg:=na) ha k;rw[E2];cases na <;> simp[Qa4,ha] at hr h1⊢<;> omega
  ·have h1:=Q7g (neg:=na) ha k;have h2:=Q7g (neg:=nb) hb 0;rw[Int.pow_zero,Int.mul_one] at h2;generalize sgn na va*2^k=x at*;generalize sgn nb vb=y at*;cases na <;> cases nb <;> simp[Qa4,ha,hb] at h hr h1 h2⊢<;> omega
 ·obtain ⟨k,hk⟩:∃k:Nat,eb=ea+k:=⟨(eb-ea).toNat,by omega⟩;rw[Q9a hk]
  by_cases ha:va=0 <;> by_cases hb:vb=0
  ·subst ha hb;rw[hz,E2];simp[Qa4] at hr⊢;exact hr
  ·subst ha;have h2:=Q7g (neg:=nb) hb k;rw[E2];cases nb <;> simp[Qa4,hb] at hr h2⊢<;> omega
  ·subst hb;have h1:=Q7g (neg:=na) ha 0;rw[Int.pow_zero,Int.mul_one] at h1;rw[hz];cases na <;> simp[Qa4,ha] at hr h1⊢<;> omega
  ·have h1:=Q7g (neg:=na) ha 0;have h2:=Q7g (neg:=nb) hb k;rw[Int.pow_zero,Int.mul_one] at h1;generalize sgn nb vb*2^k=x at*;generalize sgn na va=y at*;cases na <;> cases nb <;> simp[Qa4,ha,hb] at h hr h1 h2⊢<;> omega
theorem Qpj {na:Bool} {va vb:Nat} {ea eb r s:Int} (hr:Q3x r (dy (va:Int) ea) (dy (vb:Int) eb)) (hs:s=Qa4 na 1*r):Q3x s (dy (sgn na va) ea) (dy (sgn na vb) eb):=by
 rcases Int.le_total eb ea with x5|x5
 ·obtain ⟨k,hk⟩:∃k:Nat,ea=eb+k:=⟨(ea-eb).toNat,by omega⟩;rw[Q99 hk] at hr⊢;rw[Q3i];have hc:(va:Int)*2^k=((va*2^k:Nat):Int):=by simp
  rw[hc] at hr;generalize va*2^k=x at*;subst hs;cases na <;> simp[Qa4,sgn] at hr⊢<;> omega
 ·obtain ⟨k,hk⟩:∃k:Nat,eb=ea+k:=⟨(eb-ea).toNat,by omega⟩;rw[Q9a hk] at hr⊢;rw[Q3i];have hc:(vb:Int)*2^k=((vb*2^k:Nat):Int):=by simp
  rw[hc] at hr;generalize vb*2^k=x at*;subst hs;cases na <;> simp[Qa4,sgn] at hr⊢<;> omega
def Q71 (v k:Nat):Prop:=v<2^k/\(v≠0->2^(k-1)<=v/\1<=k)
theorem Qmo {va vb p q:Nat} {ea eb r:Int} (hp:Q71 va p) (hq:Q71 vb q) (ha:va≠0) (hb:vb≠0) (C1:(p:Int)+ea≠q+eb) (hr:(r<0↔(p:Int)+ea<q+eb)/\(0<r↔(q:Int)+eb<p+ea)):Q3x r (dy (va:Int) ea) (dy (vb:Int) eb):=by
 obtain ⟨F9,JS⟩:=hp;obtain ⟨Ji,P6⟩:=hq;have WA:=JS ha;have XZ:=P6 hb;have key:∀{u v m n k:Nat},u<2^m->2^(n-1)<=v->1<=n->m+k<n->u*2^k<v:=fun {u v m n k} h1 h2 h3 h4=>by
  have h5:u*2^k<2^m*2^k:=TJ h1 (Nat.two_pow_pos k);rw[<-To] at h5;have h6:2^(m+k)<=2^(n-1):=UN (by decide) (by omega);omega
 have key2:∀{u v m n k:Nat},u<2^m->2^(n-1)<=v->1<=n->m<n+k->u<v*2^k:=fun {u v m n k} h1 h2 h3 h4=>by
  have h5:2^(n-1)*2^k<=v*2^k:=UT _ h2;rw[<-To] at h5;have h6:2^m<=2^(n-1+k):=UN (by decide) (by omega);omega
 rcases Int.le_total eb ea with x5|x5
 ·obtain ⟨k,hk⟩:∃k:Nat,ea=eb+k:=⟨(ea-eb).toNat,by omega⟩;rw[Q99 hk];have hc:(va:Int)*2^k=((va*2^k:Nat):Int):=by simp
  rw[hc];rcases Nat.lt_or_ge (p+k) q with h|h
  ·have:=key F9 XZ.1 XZ.2 h;omega
  ·have:=key2 (k:=k) Ji WA.1 WA.2 (by omega);omega
 ·obtain ⟨k,hk⟩:∃k:Nat,eb=ea+k:=⟨(eb-ea).toNat,by omega⟩;rw[Q9a hk];have hc:(vb:Int)*2^k=((vb*2^k:Nat):Int):=by simp
  rw[hc];rcases Nat.lt_or_ge (q+k) p with h|h
  ·have:=key Ji WA.1 WA.2 h;omega
  ·have:=key2 (k:=k) F9 XZ.1 XZ.2 (by omega);omega
end Go.Proofs.YtidojbkhlenahaaGreatDoor
namespace Go.Proofs.YtidojbkhlenahaaGreatDoor
open Go.RowKit WordsM
theorem Qf4:∀f,Lib.bitLenAux f 0=0
 |0=>rfl
 |_+1=>rfl
theorem Q4b:∀f x,x<2^f->Q71 x (Lib.bitLenAux f x)
 |0,x,h=>by
  obtain rfl:x=0:=by simp at h;exact h
  exact ⟨by decide,fun h=>absurd rfl h⟩
 |f+1,x,h=>by
  rw[Lib.bitLenAux]
  split
  ·next h0=>subst h0;exact ⟨by decide,fun h=>absurd rfl h⟩
  ·next h0=>
   obtain ⟨h1,h2⟩:=Q4b f (x / 2) (by rw[Tb] at h;omega)
   by_cases hx:x / 2=0
   ·rw[hx,Qf4];exact ⟨by omega,fun _=>⟨by simp;omega,by omega⟩⟩
   ·obtain ⟨h3,h4⟩:=h2 hx;generalize Lib.bitLenAux f (x / 2)=L at*;obtain ⟨M,rfl⟩:∃M,L=M+1:=⟨L-1,by omega⟩;rw[Nat.add_sub_cancel] at h3;refine ⟨by rw[To];omega,fun _=>⟨?_,by omega⟩⟩;rw[show 1+(M+1)-1=M+1 by omega,Tb];omega
theorem Qmp {ts:LN} {m x:Nat} (hl:Low (2^64) ts) (hm:ts.length=m+1) (hx:ts[m]?=some x) (h0:x≠0):Q71 (val (2^64) ts) (64*m+Lib.bitLen x):=by
 have B4:x<2^64:=hl x (Ug hx);obtain ⟨h1,h2⟩:=Q4b 64 x B4;obtain ⟨h3,h4⟩:=h2 h0;have hv:val (2^64) ts=val (2^64) (ts.take m)+(2^64)^m*x:=by
  have e:ts=ts.take m++[x]:=by
   have h5:=(Xbc m ts).symm;rw[UQ (by omega),(Uh.1 hx).2,Tm (by omega)] at h5;exact h5
  have h7:=Q8w (B:=2^64) (ts.take m) x;rw[<-e,UR,Xax (by omega)] at h7;exact h7
 have F7:=Q3d (B:=2^64) (by decide) (ts.take m) (fun y hy=>hl y (Td hy));rw[UR,Xax (by omega)] at F7;have hp:(2^64)^m=2^(64*m):=(TW 2 64 m).symm;rw[hp] at hv F7
 show Q71 _ (64*m+Lib.bitLenAux 64 x)
 generalize Lib.bitLenAux 64 x=L at*;obtain ⟨M,rfl⟩:∃M,L=M+1:=⟨L-1,by omega⟩;rw[Nat.add_sub_cancel] at h3;generalize val (2^64) (ts.take m)=u at*;rw[hv];have h8:2^(64*m)*2^M<=2^(64*m)*x:=Xaf _ h3;have h9:2^(64*m)*(x+1)<=2^(64*m)*2^(M+1):=Xaf _ h1;rw[<-To] at h8 h9;rw[Nat.mul_succ] at h9;exact ⟨by omega,fun _=>⟨by rw[show 64*m+(M+1)-1=64*m+M by omega];omega,by omega⟩⟩
theorem Qgx (a:OA) (n c:Nat) (ls:LN) (w:World) (h:WordsIn w a n c ls) (hn:n<=1000000):
 Calls Tryz.prog 145 #[.slice a n c] w fun e w'=>(∃k:Nat,e=.returned (.int .i64 (k:Int))/\Q71 (val (2^64) ls) k/\k<=64*n)/\Bw w w':=by
 have hc:=Q1e a n c ls w h;have HC:=Ua hc;have ht:=h.trim;have hv:val (2^64) (trimL ls)=val (2^64) ls:=Q1c ls;have Wp:=Qbk ls;have J6:=trim_len ls;have P2:=h.len;obtain ⟨ts,Vm⟩:∃ts,trimL ls=ts:=⟨_,rfl⟩;rw[Vm] at hv Wp J6 ht HC;have HT:=Xh3 ht hv Wp;clear hc ht hv Wp Vm h
 by_cases h0:ts.length=0
 ·have JN:=UC.1 h0;subst JN
  go_enter Tryz.func145,Tryz.ntmps145
  go_wp2_with (refine HC.out.mono ?_;rintro e w1 ⟨rfl,C0⟩;have I0:=Ua C0;clear C0)
  go_ret;exact ⟨⟨0,rfl,by rw[<-(Xo1 HT)];exact ⟨by decide,fun h=>absurd rfl h⟩,Uv _⟩,I0.out⟩
 ·obtain ⟨m,hm⟩:∃m,ts.length=m+1:=⟨ts.length-1,by omega⟩;obtain ⟨x,hx⟩:∃x,ts[m]?=some x:=⟨_,Ub (by omega)⟩;have Y5:x≠0:=(Xe2 HT) x (by rw[List.getLast?_eq_getElem?,hm];exact hx);have B4:x<2^64:=(Xo0 HT).low x (Ug hx);have B4:x<18446744073709551616:=B4;have O0:=fun W=>Tryz.J03 (x:Int) W (by omega) (by omega);have K4:1<=Lib.bitLen x:=Nat.pos_of_ne_zero fun e=>Y5 ((Qbl x).1 e);have G7:Lib.bitLen x<=64:=Q4d 64 x;have Y0:=Qmp (Xo0 HT).low hm hx Y5;rw[(Xo1 HT)] at Y0;rw[TS] at O0;generalize Lib.bitLen x=L at O0 K4 G7 Y0;have HLN:=Xh2 O0 Y0;rw[hm] at HC;clear O0 Y0 h0
  go_enter Tryz.func145,Tryz.ntmps145
  go_wp2_with (first
   |(refine HC.out.mono ?_;rintro e w1 ⟨rfl,C0⟩;(obtain ⟨b,o,rfl,S5,J0⟩:=((Xo0 HT).step C0).rd.at_ hx);have I0:=Ua C0;clear C0)
   |(refine ((Xo0 HLN) _).mono ?_;rintro e w2 ⟨rfl,rfl⟩))
  go_ret;exact ⟨⟨64*m+L,rfl,(Xe1 HLN),by omega⟩,I0.out⟩
end Go.Proofs.YtidojbkhlenahaaGreatDoor
namespace Go.Proofs.YtidojbkhlenahaaGreatDoor
namespace Div64M
theorem Qpk {D y1 y0 u r q:Nat} (h:q*y1+r=u):q*(y1*D+y0)+D*r=u*D+q*y0:=by
 subst h;rw[Tt,Tj,<-UJ,UB D r];omega
theorem quot_low {D y u d:Nat} (hu:u<y) (hd:d<D):(u*D+d) / y<D:=by
 refine TV ?_;have h:(u+1)*D<=y*D:=UT D hu;rw[Tj,Nat.one_mul] at h;omega
theorem out_cond {D y1 y0 u d q r:Nat} (hy:0<y1*D+y0) (o5:q*y1+r=u) (JX:(u*D+d) / (y1*D+y0)<=q) (hc:q*y0<=D*r+d):q=(u*D+d) / (y1*D+y0):=by
 refine Nat.le_antisymm ?_ JX;rw[Nat.le_div_iff_mul_le hy];have:=Qpk (D:=D) (y0:=y0) o5;omega
theorem too_great {D y1 y0 u d q r:Nat} (hu:u<y1*D+y0) (hd:d<D) (o5:q*y1+r=u) (hc:D<=q∨D*r+d<q*y0):(u*D+d) / (y1*D+y0)+1<=q:=by
 rcases hc with hc|hc
 ·exact Uc (quot_low hu hd) hc
 ·refine TV ?_;have:=Qpk (D:=D) (y0:=y0) o5;rw[UB (y1*D+y0) q,UB u D] at*;omega
theorem out_step {D y1 y0 u d q r:Nat} (hy:0<y1*D+y0) (h0:y0<D) (o5:q*y1+r=u) (JX:(u*D+d) / (y1*D+y0)<=q) (hq:q<=D) (hr:D<=r):q=(u*D+d) / (y1*D+y0):=by
 refine out_cond hy o5 JX ?_;have h1:q*y0<=D*y0:=UT y0 hq;have h2:D*y0<=D*r:=Xaf D (by omega);omega
theorem guess_le {D y1 y0 u:Nat} (hu:u<y1*D+y0) (h0:y0<D) (h1:D<=2*y1):u / y1<=D+1:=by
 have hp:0<y1:=by omega
 refine Nat.le_of_lt_succ (TV ?_);have:y1*(D+1+1)=y1*D+y1+y1:=by rw[Tt,Tt,Nat.mul_one]
 show u<y1*(D+1+1)
 omega
theorem guess_ge {D y1 y0 u d:Nat} (h1:0<y1) (hd:d<D):(u*D+d) / (y1*D+y0)<=u / y1:=by
 rw[Nat.le_div_iff_mul_le h1];have hy:0<y1*D+y0:=by
  have:=Nat.mul_pos h1 (show 0<D by omega);omega
 obtain ⟨t,ht⟩:∃t,(u*D+d) / (y1*D+y0)=t:=⟨_,rfl⟩;have h2:t*(y1*D+y0)<=u*D+d:=by rw[<-ht];exact Nat.div_mul_le_self _ _
 rw[ht];have h3:t*(y1*D+y0)=t*y1*D+t*y0:=by rw[Tt,UJ]
 have h4:t*y1*D<(u+1)*D:=by rw[Tj,Nat.one_mul];omega
 exact Nat.le_of_lt_succ (Nat.lt_of_mul_lt_mul_right h4)
theorem halves {D y hi l1 l0:Nat} (hy:0<y):
 (hi*(D*D)+(l1*D+l0)) / y=(hi*D+l1) / y*D+((hi*D+l1)%y*D+l0) / y/\(hi*(D*D)+(l1*D+l0))%y=((hi*D+l1)%y*D+l0)%y:=by
 have e:hi*(D*D)+(l1*D+l0)=y*((hi*D+l1) / y*D)+((hi*D+l1)%y*D+l0):=by
  have h:=TL (hi*D+l1) y;have h2:(hi*D+l1)*D=(y*((hi*D+l1) / y)+(hi*D+l1)%y)*D:=by rw[h]
  rw[Tj,Tj,UJ,UJ] at h2;omega
 rw[e];exact ⟨by rw[Nat.mul_add_div hy],Nat.mul_add_mod _ _ _⟩
end Div64M
open Go.RowKit WordsM
theorem Q9b:∀(f x:Nat),0<f->2^(f-1)<=x->Lib.bitLenAux f x=f
 |0,x,h,_=>absurd h (by omega)
 |f+1,x,_,hx=>by
  rw[Lib.bitLenAux];have hp:0<2^f:=Tn (by decide);rw[Nat.add_sub_cancel] at hx;rw[Uq (by omega)];cases f with
  |zero=>simp[Lib.bitLenAux]
  |succ f=>
   rw[Q9b (f+1) (x / 2) (by omega) (by rw[Nat.add_sub_cancel,Nat.le_div_iff_mul_le (by decide),<-Tb];exact hx)];omega
theorem Qpl (hi lo y:Nat) (w:World) (hh:hi<y) (E5:lo<18446744073709551616) (hy:9223372036854775808<=y) (Xm:y<18446744073709551616):
 Calls Tryz.prog 213 #[.int .u64 (hi:Int),.int .u64 (lo:Int),.int .u64 (y:Int)] w fun e w'=>
  e=.returned (.tuple #[.int .u64 (((hi*18446744073709551616+lo) / y:Nat):Int),.int .u64 (((hi*18446744073709551616+lo)%y:Nat):Int)])/\Bw w w':=by
 have K4:Lib.bitLen y=64:=Q9b 64 y (by decide) hy;have hlz:=fun W=>Tryz.Qzn (y:Int) W (by omega) (by omega);rw[TS,K4] at hlz;have hlz2:=fun W=>(hlz W).mono (R':=fun e w'=>e=.returned (.int .i64 (64-((64:Nat):Int)))/\W=w') (by rintro e w' ⟨h1,h2⟩;exact ⟨h1,h2.symm⟩);have HLZ:=Ua hlz2;clear hlz hlz2 K4
 by_cases h0:hi=0
 ·subst h0;rw[TQ,UH];obtain ⟨q,hq⟩:∃q,lo / y=q:=⟨_,rfl⟩;obtain ⟨r,hr⟩:∃r,lo%y=r:=⟨_,rfl⟩;have Ya:q<18446744073709551616:=by rw[<-hq];exact TP (Xbq _ _) E5
  have hqI:(lo:Int) / (y:Int)=(q:Int):=by rw[<-hq];norm_cast
  have hrI:(lo:Int)%(y:Int)=(r:Int):=by rw[<-hr];norm_cast
  rw[hq,hr]
  go_enter Tryz.func213,Tryz.ntmps213
  go_wp2_with fail
  go_quiet (fail)
  go_wp2_with fail
  refine ⟨rfl,.tuple #[.int .u64 (q:Int),.int .u64 (r:Int)],by simp[results,go_sem,hrI],rfl,⟨rfl,rfl,rfl,Ue _,fun _ _=>rfl⟩⟩
 ·have h0':((hi:Int)==0)=false:=by rw[Uk];omega
  obtain ⟨y1,hy1d⟩:∃z,y / 4294967296=z:=⟨_,rfl⟩;obtain ⟨y0,hy0d⟩:∃z,y%4294967296=z:=⟨_,rfl⟩;obtain ⟨l1,hl1d⟩:∃z,lo / 4294967296=z:=⟨_,rfl⟩;obtain ⟨l0,hl0d⟩:∃z,lo%4294967296=z:=⟨_,rfl⟩;have Vt:y=y1*4294967296+y0:=by omega
  have hl_l1:l1<4294967296:=by omega
  have hl_l0:l0<4294967296:=by omega
  obtain ⟨t1,I3⟩:∃z,(hi*4294967296+l1) / y=z:=⟨_,rfl⟩;obtain ⟨u2,Ze⟩:∃z,(hi*4294967296+l1)%y=z:=⟨_,rfl⟩;obtain ⟨t0,KF⟩:∃z,(u2*4294967296+l0) / y=z:=⟨_,rfl⟩;obtain ⟨rr,Qw⟩:∃z,(u2*4294967296+l0)%y=z:=⟨_,rfl⟩;have Vz:=Div64M.halves (D:=4294967296) (y:=y) (hi:=hi) (l1:=l1) (l0:=l0) (by omega);rw[show 4294967296*4294967296=18446744073709551616 from rfl,show l1*4294967296+l0=lo by omega,I3,Ze,KF,Qw] at Vz;rw[Vz.1,Vz.2];have ht1l:t1<4294967296:=by rw[<-I3];exact Div64M.quot_low hh hl_l1
  have hu2l:u2<y:=by rw[<-Ze];exact TH _ (by omega)
  have ht0l:t0<4294967296:=by rw[<-KF];exact Div64M.quot_low hu2l hl_l0
  have D3:=TL (hi*4294967296+l1) y;have XX:=TL (u2*4294967296+l0) y;rw[I3,Ze,UB y] at D3;rw[KF,Qw,UB y] at XX;have hrrl:rr<y:=by rw[<-Qw];exact TH _ (by omega)
  obtain ⟨T1,Ym⟩:∃z,t1*y=z:=⟨_,rfl⟩;obtain ⟨T0,I8⟩:∃z,t0*y=z:=⟨_,rfl⟩;have hT1I:(t1:Int)*(y:Int)=(T1:Int):=by rw[<-Ym];norm_cast
  have hT0I:(t0:Int)*(y:Int)=(T0:Int):=by rw[<-I8];norm_cast
  rw[Ym] at D3;rw[I8] at XX;have Jz:(lo:Int) / 18446744073709551616=0:=by omega
  have hy1I:(y:Int) / 4294967296=(y1:Int):=by omega
  have hl1I:(lo:Int) / 4294967296=(l1:Int):=by omega
  have U8:bits .or .u64 (hi:Int) 0=(hi:Int):=by have:=bits_or_u64_nat hi 0 (by omega) (by decide);simpa using this
  have B6:∀z:Nat,z<18446744073709551616->bits .and .u64 (z:Int) 4294967295=((z%4294967296:Nat):Int):=fun z hz=>by
   have h1:=bits_and_u64_nat z 4294967295 hz (by decide);rw[show (4294967295:Nat)=2^32-1 from rfl,Nat.and_two_pow_sub_one_eq_mod] at h1;exact h1
  have hy0I:bits .and .u64 (y:Int) 4294967295=(y0:Int):=by rw[B6 y Xm,hy0d]
  have hl0I:bits .and .u64 (lo:Int) 4294967295=(l0:Int):=by rw[B6 lo E5,hl0d]
  clear B6;have ZY:=Ua Vt;have VL:IntKind.u64.wrap (IntKind.u64.wrap (IntKind.u64.wrap ((hi:Int)*4294967296)+(l1:Int))-IntKind.u64.wrap (T1:Int))=(u2:Int):=by
   simp only[IntKind.wrap,IntKind.signed,IntKind.bits,Bool.false_and,Xaj,Xbs];omega
  have hU0:IntKind.u64.wrap (IntKind.u64.wrap (IntKind.u64.wrap ((u2:Int)*4294967296)+(l0:Int))-IntKind.u64.wrap (T0:Int))=(rr:Int):=by
   simp only[IntKind.wrap,IntKind.signed,IntKind.bits,Bool.false_and,Xaj,Xbs];omega
  have HU:=Ua hh;have hyb:2147483648<=y1/\y1<4294967296/\y0<4294967296:=by omega
  have HYP:=Ua (show 0<y1*4294967296+y0 by omega);clear Vt hy1d hy0d hl1d hl0d Vz D3 XX;obtain ⟨qg,Qr⟩:∃q,hi / y1=q:=⟨_,rfl⟩;have hqI:(hi:Int).tdiv (y1:Int)=(qg:Int):=by rw[<-Qr,<-Int.ofNat_tdiv]
  obtain ⟨Pg,Yf⟩:∃P,qg*y1=P:=⟨_,rfl⟩;have hPgI:(qg:Int)*(y1:Int)=(Pg:Int):=by rw[<-Yf];norm_cast
  obtain ⟨rg,Ws⟩:∃r,hi%y1=r:=⟨_,rfl⟩;have Wc:=TL hi y1;rw[Qr,Ws,UB,Yf] at Wc;have YE:rg<4294967296:=by have:=TH hi (show 0<y1 by omega);omega
  have hrI:(hi:Int)-(Pg:Int)=(rg:Int):=by omega
  have o5:qg*y1+rg=hi:=by rw[Yf];exact Wc
  have Wx:qg<=4294967296+1:=by rw[<-Qr];exact Div64M.guess_le (D:=4294967296) (y0:=y0) (by rw[<-ZY.out];exact HU.out) (by omega) (by omega)
  have JX:t1<=qg:=by rw[<-Qr,<-I3,ZY.out];exact Div64M.guess_ge (by omega) hl_l1
  go_enter Tryz.func213,Tryz.ntmps213
  go_upto_block 0 with (refine (HLZ.out _).mono ?_;rintro e w1 ⟨rfl,rfl⟩)
  go_cut [15] (fun qv wx=>qv=.int .u64 (t1:Int)/\w=wx)
  case first=>
   go_wp2_with fail
   go_loopw [15,16] (fun qv rv wr=>∃(q r:Nat),qv=.int .u64 (q:Int)/\rv=.int .u64 (r:Int)/\q*y1+r=hi/\t1<=q/\q<=4294967296+1/\r<4294967296/\wr=w) (fun qv _ _=>(intOf qv).toNat)
   case atStart=>exact ⟨qg,rg,rfl,rfl,o5,JX,Wx,YE,rfl⟩
   case round=>
    clear o5 JX Wx YE;obtain ⟨q,r,rfl,rfl,o5,JX,Wx,YE,rfl⟩:=hrel;obtain ⟨P,hP⟩:∃P,q*y0=P:=⟨_,rfl⟩;have hPI:(q:Int)*(y0:Int)=(P:Int):=(by rw[<-hP];norm_cast);have Jg:q<4294967296->P<18446744073709551616:=fun h=>by
     have:q*y0<=4294967296*y0:=UT y0 (by omega);omega
    have hrge:(0:Int)<=(r:Int):=Int.natCast_nonneg _;have hrlt:(r:Int)<4294967296:=(by omega);have HCC:4294967296<=q∨¬4294967296<=q:=by omega
    by_cases hc:4294967296<=q∨4294967296*r+l1<P
    ·have htg:=Div64M.too_great (D:=4294967296) (d:=l1) (y0:=y0) (q:=q) (r:=r) (u:=hi) (y1:=y1) (by rw[<-ZY.out];exact HU.out) hl_l1 o5 (by rw[hP];exact hc);rw[<-ZY.out,I3] at htg;obtain ⟨p,hp⟩:∃p,q=p+1:=⟨q-1,by omega⟩;have ZC:p*y1+(r+y1)=hi:=(by rw[<-o5,hp,Tj];omega);have hpI:(q:Int)-1=(p:Int):=(by omega);have Ji:(1:Int)<=(q:Int):=(by omega);have hgp:t1<=p:=(by omega);have Ww:p<=4294967296:=(by omega);have hpq:p<q:=(by omega);have Zh:=Ua ZC;have B7:(4294967296<=q)∨(¬4294967296<=q/\4294967296*r+l1<P):=(by omega);have HCS:=Ua B7;clear hc hp htg o5 ZC B7 HCC
     by_cases P1:4294967296<=r+y1
     ·have Xt:=Div64M.out_step (D:=4294967296) (y1:=y1) (y0:=y0) (u:=hi) (d:=l1) (q:=p) (r:=r+y1) HYP.out (by omega) Zh.out (by rw[<-ZY.out,I3];omega) (by omega) P1;rw[<-ZY.out,I3] at Xt;have hr2I:(4294967296:Int)<=(r:Int)+(y1:Int):=(by omega);have HOT:=Ua Xt;clear P1 Xt;rcases HCS.out with hc|⟨Zj,hc⟩
      ·have m5:(4294967296:Int)<=(q:Int):=(by omega);clear hc Jg
       go_wp2_with fail
       go_meet;exact ⟨by rw[HOT.out],rfl⟩
      ·have Kz:=Jg (by omega);have hcI:4294967296*(r:Int)+(l1:Int)<(P:Int):=(by omega);have hc3I:¬(4294967296:Int)<=(q:Int):=(by omega);clear hc Zj Jg
       go_wp2_with fail
       go_meet;exact ⟨by rw[HOT.out],rfl⟩
     ·have hr2I:¬(4294967296:Int)<=(r:Int)+(y1:Int):=(by omega);have HR2:=Ua P1;clear P1;rcases HCS.out with hc|⟨Zj,hc⟩
      ·have m5:(4294967296:Int)<=(q:Int):=(by omega);clear hc Jg
       go_wp2_with fail
       exact ⟨⟨p,r+y1,rfl,by simp,Zh.out,hgp,by omega,by have:=HR2.out;omega,trivial⟩,by simp only[intOf];omega⟩
      ·have Kz:=Jg (by omega);have hcI:4294967296*(r:Int)+(l1:Int)<(P:Int):=(by omega);have hc3I:¬(4294967296:Int)<=(q:Int):=(by omega);clear hc Zj Jg
       go_wp2_with fail
       exact ⟨⟨p,r+y1,rfl,by simp,Zh.out,hgp,by omega,by have:=HR2.out;omega,trivial⟩,by simp only[intOf];omega⟩
    ·have Xt:=Div64M.out_cond (D:=4294967296) (y1:=y1) (y0:=y0) (u:=hi) (d:=l1) (q:=q) (r:=r) HYP.out o5 (by rw[<-ZY.out,I3];exact JX) (by rw[hP];omega);rw[<-ZY.out,I3] at Xt;subst Xt;have Kz:=Jg (by omega);have J1:¬((4294967296:Int)<=(q:Int)):=(by omega);have I1:¬(4294967296*(r:Int)+(l1:Int)<(P:Int)):=(by omega);clear hc
     go_wp2_with fail
     go_meet;exact ⟨rfl,rfl⟩
  case rest=>
   obtain ⟨rfl,rfl⟩:=hcut;clear o5 JX Wx YE hqI hPgI hrI Yf Ws Qr Wc HU;have HU:=Ua hu2l;obtain ⟨qg,Qr⟩:∃q,u2 / y1=q:=⟨_,rfl⟩;have hqI:(u2:Int).tdiv (y1:Int)=(qg:Int):=(by rw[<-Qr,<-Int.ofNat_tdiv]);obtain ⟨Pg,Yf⟩:∃P,qg*y1=P:=⟨_,rfl⟩;have hPgI:(qg:Int)*(y1:Int)=(Pg:Int):=(by rw[<-Yf];norm_cast);obtain ⟨rg,Ws⟩:∃r,u2%y1=r:=⟨_,rfl⟩;have Wc:=TL u2 y1;rw[Qr,Ws,UB,Yf] at Wc;have YE:rg<4294967296:=(by have:=TH u2 (show 0<y1 by omega);omega);have hrI:(u2:Int)-(Pg:Int)=(rg:Int):=(by omega);have o5:qg*y1+rg=u2:=(by rw[Yf];exact Wc);have Wx:qg<=4294967296+1:=(by rw[<-Qr];exact Div64M.guess_le (D:=4294967296) (y0:=y0) (by rw[<-ZY.out];exact HU.out) (by omega) (by omega));have JX:t0<=qg:=by rw[<-Qr,<-KF,ZY.out];exact Div64M.guess_ge (by omega) hl_l0
   go_upto_block 2 with fail
   go_cut [18] (fun qv wx=>qv=.int .u64 (t0:Int)/\w=wx)
   case first=>
    go_wp2_with fail
    go_loopw [18,16] (fun qv rv wr=>∃(q r:Nat),qv=.int .u64 (q:Int)/\rv=.int .u64 (r:Int)/\q*y1+r=u2/\t0<=q/\q<=4294967296+1/\r<4294967296/\wr=w) (fun qv _ _=>(intOf qv).toNat)
    case atStart=>exact ⟨qg,rg,rfl,rfl,o5,JX,Wx,YE,rfl⟩
    case round=>
     clear o5 JX Wx YE;obtain ⟨q,r,rfl,rfl,o5,JX,Wx,YE,rfl⟩:=hrel;obtain ⟨P,hP⟩:∃P,q*y0=P:=⟨_,rfl⟩;have hPI:(q:Int)*(y0:Int)=(P:Int):=(by rw[<-hP];norm_cast);have Jg:q<4294967296->P<18446744073709551616:=fun h=>by
      have:q*y0<=4294967296*y0:=UT y0 (by omega);omega
     have hrge:(0:Int)<=(r:Int):=Int.natCast_nonneg _;have hrlt:(r:Int)<4294967296:=(by omega);have HCC:4294967296<=q∨¬4294967296<=q:=by omega
     by_cases hc:4294967296<=q∨4294967296*r+l0<P
     ·have htg:=Div64M.too_great (D:=4294967296) (d:=l0) (y0:=y0) (q:=q) (r:=r) (u:=u2) (y1:=y1) (by rw[<-ZY.out];exact HU.out) hl_l0 o5 (by rw[hP];exact hc);rw[<-ZY.out,KF] at htg;obtain ⟨p,hp⟩:∃p,q=p+1:=⟨q-1,by omega⟩;have ZC:p*y1+(r+y1)=u2:=(by rw[<-o5,hp,Tj];omega);have hpI:(q:Int)-1=(p:Int):=(by omega);have Ji:(1:Int)<=(q:Int):=(by omega);have hgp:t0<=p:=(by omega);have Ww:p<=4294967296:=(by omega);have hpq:p<q:=(by omega);have Zh:=Ua ZC;have B7:(4294967296<=q)∨(¬4294967296<=q/\4294967296*r+l0<P):=(by omega);have HCS:=Ua B7;clear hc hp htg o5 ZC B7 HCC
      by_cases P1:4294967296<=r+y1
      ·have Xt:=Div64M.out_step (D:=4294967296) (y1:=y1) (y0:=y0) (u:=u2) (d:=l0) (q:=p) (r:=r+y1) HYP.out (by omega) Zh.out (by rw[<-ZY.out,KF];omega) (by omega) P1;rw[<-ZY.out,KF] at Xt;have hr2I:(4294967296:Int)<=(r:Int)+(y1:Int):=(by omega);have HOT:=Ua Xt;clear P1 Xt;rcases HCS.out with hc|⟨Zj,hc⟩
       ·have m5:(4294967296:Int)<=(q:Int):=(by omega);clear hc Jg
        go_wp2_with fail
        go_meet;exact ⟨by rw[HOT.out],rfl⟩
       ·have Kz:=Jg (by omega);have hcI:4294967296*(r:Int)+(l0:Int)<(P:Int):=(by omega);have hc3I:¬(4294967296:Int)<=(q:Int):=(by omega);clear hc Zj Jg
        go_wp2_with fail
        go_meet;exact ⟨by rw[HOT.out],rfl⟩
      ·have hr2I:¬(4294967296:Int)<=(r:Int)+(y1:Int):=(by omega);have HR2:=Ua P1;clear P1;rcases HCS.out with hc|⟨Zj,hc⟩
       ·have m5:(4294967296:Int)<=(q:Int):=(by omega);clear hc Jg
        go_wp2_with fail
        exact ⟨⟨p,r+y1,rfl,by simp,Zh.out,hgp,by omega,by have:=HR2.out;omega,trivial⟩,by simp only[intOf];omega⟩
       ·have Kz:=Jg (by omega);have hcI:4294967296*(r:Int)+(l0:Int)<(P:Int):=(by omega);have hc3I:¬(4294967296:Int)<=(q:Int):=(by omega);clear hc Zj Jg
        go_wp2_with fail
        exact ⟨⟨p,r+y1,rfl,by simp,Zh.out,hgp,by omega,by have:=HR2.out;omega,trivial⟩,by simp only[intOf];omega⟩
     ·have Xt:=Div64M.out_cond (D:=4294967296) (y1:=y1) (y0:=y0) (u:=u2) (d:=l0) (q:=q) (r:=r) HYP.out o5 (by rw[<-ZY.out,KF];exact JX) (by rw[hP];omega);rw[<-ZY.out,KF] at Xt;subst Xt;have Kz:=Jg (by omega);have J1:¬((4294967296:Int)<=(q:Int)):=(by omega);have I1:¬(4294967296*(r:Int)+(l0:Int)<(P:Int)):=(by omega);clear hc
      go_wp2_with fail
      go_meet;exact ⟨rfl,rfl⟩
   case rest=>
    obtain ⟨rfl,rfl⟩:=hcut
    go_wp2_with fail
    refine ⟨rfl,.tuple #[.int .u64 ((t1*4294967296+t0:Nat):Int),.int .u64 (rr:Int)],by simp[results,go_sem],rfl,Ud _ _⟩
theorem Qpm {B d:Nat} {A L:LN} {k x rest:Nat} (hx:A[k]?=some x) (hk:k<L.length) (h:val B (L.drop (k+1))*d+rest=val B (A.drop (k+1))):
 val B ((L.set k ((rest*B+x) / d)).drop k)*d+(rest*B+x)%d=val B (A.drop k):=by
 have hka:k<A.length:=(Uh.1 hx).1;have WR:A[k]=x:=(Uh.1 hx).2;have e1:A.drop k=x::A.drop (k+1):=by rw[UQ hka,WR]
 have K6:k<(L.set k ((rest*B+x) / d)).length:=by rw[Ti];exact hk
 have e2:(L.set k ((rest*B+x) / d)).drop k=(rest*B+x) / d::L.drop (k+1):=by
  rw[UQ K6,List.getElem_set_self,List.drop_set_of_lt (by omega)]
 rw[e1,e2];simp only[val];rw[<-h];have h1:=TL (rest*B+x) d;generalize (rest*B+x) / d=q at*;generalize (rest*B+x)%d=r at*;generalize val B (L.drop (k+1))=V at*;rw[Tj,Tt,UJ,UB q d,UB B rest];omega
theorem Qmq (a:OA) (n c:Nat) (A:LN) (d:Nat) (w:World) (h:WordsIn w a n c A) (hn:n<=100000) (hd:9223372036854775808<=d) (Z2:d<18446744073709551616):
 Calls Tryz.prog 158 #[.slice a n c,.int .u64 (d:Int)] w fun e w'=>∃a' n' c',e=.returned (.tuple #[.slice a' n' c',.int .u64 ((val (2^64) A%d:Nat):Int)])/\WordsIn w' a' n' c' (dig (2^64) (val (2^64) A / d))/\Bw w w'/\∀x,a'=some x->w.heap.size<=x.block:=by
 have O0:=h.len;have H:=Ua h;have j4:=Xa2 (P:=Tryz.prog) 24 83 (.int .u64 0) 8 Tryz.underlying24 Q4s rfl .i64 .i64 n (by omega) (by omega);rw[Q2n] at j4;have M2:Bw w (w.alloc (.cells (Array.replicate n (nv .u64 0)) 83)):=Ba;have C9:=Arr.zeros w 83 .u64 n;have H0:=Xh2 M2 C9;clear M2 C9 h
 go_enter Tryz.func158,Tryz.ntmps158
 go_wp2_with fail
 clear j4
 go_loopw [7,8] (fun rv iv wr=>∃(k rest:Nat) (L:LN),rv=.int .u64 (rest:Int)/\iv=.int .i64 ((k:Int)-1)/\k<=n/\rest<d/\Arr 83 .u64 wr w.heap.size L/\L.length=n/\Low (2^64) L/\val (2^64) (L.drop k)*d+rest=val (2^64) (A.drop k)/\Bw w wr) (fun _ iv _=>(intOf iv+1).toNat)
 case atStart=>
  refine ⟨n,0,List.replicate n 0,rfl,rfl,Ue _,by omega,(Xe1 H0),by simp,fun x hx=>?_,?_,(Xo0 H0)⟩
  ·rw[Xae hx];decide
  ·rw[TX (by simp),TX (by omega)];simp[val]
 case round=>
  obtain ⟨k,rest,L,rfl,rfl,hk,M6,hL,F5,X0,N0,Y0⟩:=hrel;cases k with
  |zero=>
   rw[Xa3,Xa3] at N0;have hq:val (2^64) A / d=val (2^64) L:=by
    rw[<-N0,UB,Nat.mul_add_div (by omega),Xal M6,TD]
   have hr:val (2^64) A%d=rest:=by
    rw[<-N0,UB,Nat.mul_add_mod,Xac M6]
   have hW:WordsIn wr (some ⟨w.heap.size,0,none⟩) n n L:=⟨F5,Ue _,by omega,X0,hL.rd⟩;have K7:trimL L=dig (2^64) (val (2^64) A / d):=(by rw[Q1r (by decide) X0,hq]);have HE:=Xh3 hW Y0 K7;have HR:=Ua hr;clear hW Y0 K7 N0 hL X0 hq hr H0
   go_wp2_with (refine (Q1e _ _ _ _ _ (Xo0 HE)).mono ?_;rintro e w5 ⟨rfl,P0⟩;have A4:=Ua P0;clear P0)
   have M3:=((Xo0 HE).step A4.out).trim;rw[(Xe2 HE)] at M3;refine ⟨rfl,.tuple #[.slice (some ⟨w.heap.size,0,none⟩) (trimL L).length n,.int .u64 (rest:Int)],by simp[results,go_sem],some ⟨w.heap.size,0,none⟩,(trimL L).length,n,by rw[HR.out],?_,Below.next0 (Xo1 HE) A4.out,fun x e=>by injection e with e;subst e;exact Ue _⟩;rw[(Xe2 HE)];exact M3
  |succ m=>
   obtain ⟨x,hx⟩:∃x,A[m]?=some x:=⟨_,Ub (by omega)⟩;obtain ⟨b,o,j5,K4,Y4⟩:=(H.out.rd.below Y0).at_ hx;have B4:x<18446744073709551616:=H.out.low x (Ug hx);subst j5;have R0:=Qpm (B:=2^64) hx (by omega) N0;rw[show (2:Nat)^64=18446744073709551616 from rfl] at R0;have Zd:=fun W=>Qpl rest x d W M6 B4 hd Z2;have P1:(rest*18446744073709551616+x)%d<d:=TH _ (by omega);have P6:(rest*18446744073709551616+x) / d<18446744073709551616:=by
    refine TV ?_;have h1:(rest+1)*18446744073709551616<=d*18446744073709551616:=UT _ M6;omega
   generalize (rest*18446744073709551616+x) / d=q at*;generalize (rest*18446744073709551616+x)%d=r at*;have hmI:((m:Int)+1-1)=(m:Int):=(by omega);have HDV:=Ua Zd;have YA:wr.frozen? ⟨w.heap.size,m,none⟩=false:=hL.frozen m;obtain ⟨z,hz⟩:∃z,L[m]?=some z:=⟨_,Ub (by omega)⟩;have YV:wr.cell? ⟨w.heap.size,m,none⟩=some (.int .u64 (z:Int)):=hL.cell hz;have Xn:w.heap.size<wr.heap.size:=hL.lt;have HH:=Xh4 R0 hL X0 Y0;clear Zd R0 hL X0 N0 Y0 hx hz
   go_wp2_with (refine (HDV.out _).mono ?_;rintro e w5 ⟨rfl,P0⟩;have hzf5:=(P0.frozen (p:=⟨w.heap.size,m,none⟩) Xn).trans YA;have hzc5:=(P0.cell (p:=⟨w.heap.size,m,none⟩) Xn).trans YV;have A4:=Ua P0;clear P0)
   refine ⟨⟨m,r,L.set m q,rfl,rfl,by omega,P1,((Xo1 HH).call A4.out).set m q,by simp[F5],Q43 (Xo2 HH) P6,(Xo0 HH),(Below.next0 (Xe3 HH) A4.out).setCell (p:=⟨w.heap.size,m,none⟩) (Ue _) _⟩,by simp only[intOf];omega⟩
end Go.Proofs.YtidojbkhlenahaaGreatDoor
