/- Part 5. No condition. -/
import Derived.Laws.Bits64b
import Derived.Test.YtidojbkhlenahaaGreatDoorPkProblemRights04
set_option maxRecDepth 100000
set_option maxHeartbeats 16000000
namespace Go.Proofs.YtidojbkhlenahaaGreatDoor
open Go.RowKit WordsM DecM
def Q9z (i:Nat) (k:Int):List (LU):=
 if k=1 then [120::dec (i+1)] else if 1<k then [120::(dec (i+1)++94::dec k.toNat)] else []
def Q11:Nat->List Int->List (LU)
 |_,[]=>[]
 |i,k::r=>Q9z i k++Q11 (i+1) r
def Q20:Dyadic->Bool
 | .zero=>false
 | .ofOdd n _ _=>decide (n<0)
def Qay (d:Dyadic):Dyadic:=if Q20 d=true then -d else d
def dyT:Dyadic->LU
 | .zero=>[48]
 | .ofOdd n k _=>Q21 (decide (n<0)) n.natAbs (-k)
def Q2k:List (LU)->LU
 |[]=>[]
 |[x]=>x
 |x::y::r=>x++42::Q2k (y::r)
def Q3o (p:Q0l):List (LU):=
 if Q11 0 p.2=[]∨Qay p.1≠1 then dyT (Qay p.1)::Q11 0 p.2 else Q11 0 p.2
def Q1n (p:Q0l):LU:=Q2k (Q3o p)
def Q31 (first:Bool) (p:Q0l):LU:=
 if first=true then (if Q20 p.1=true then [45] else []) else (if Q20 p.1=true then [32,45,32] else [32,43,32])
def Q0m:Bool->List Q0l->LU
 |_,[]=>[]
 |first,p::r=>Q31 first p++(Q1n p++Q0m false r)
def Q4u (P:List Q0l):LU:=if P=[] then [48] else Q0m true P
def Q5o (i:Nat) (P:List Q0l):LU:=Q3f i++(Q4u P++[10])
def Q0u:Nat->List (List Q0l)->LU
 |_,[]=>[]
 |i,P::r=>Q5o i P++Q0u (i+1) r
def Qqx (F:List (List Q0l)):Prop:=1<=F.length/\F.length<=4/\∀P∈F,Q56 F.length P
theorem Q7x {neg:Bool} {v:Nat} {e:Int} (ho:v%2=1):Q20 (dy (sgn neg v) e)=neg:=by
 rw[Qcd (Q55 ho)];cases neg
 ·simp[Q20,sgn]
 ·simp[Q20,sgn];omega
theorem Qck {neg:Bool} {v:Nat} {e:Int} (ho:v%2=1):dyT (dy (sgn neg v) e)=Q21 neg v e:=by
 have h:=Q7x (neg:=neg) (e:=e) ho;rw[Qcd (Q55 ho)] at h⊢;simp only[Q20] at h;simp only[dyT,h,Qce,Int.neg_neg]
theorem Qg6 {neg:Bool} {v:Nat} {e:Int} (ho:v%2=1):Qay (dy (sgn neg v) e)=dy (sgn false v) e:=by
 unfold Qay;rw[Q7x ho];cases neg
 ·rfl
 ·rw[Uu rfl,Qcb];congr 1;simp[sgn]
theorem Qg7 (d:Dyadic):d=0∨∃(neg:Bool) (v:Nat) (e:Int),v%2=1/\d=dy (sgn neg v) e:=by
 cases d with
 |zero=>exact .inl rfl
 |ofOdd n k h=>
  refine .inr ⟨decide (n<0),n.natAbs,-k,by omega,?_⟩;have hs:sgn (decide (n<0)) n.natAbs=n:=by
   unfold sgn
   by_cases hn:n<0
   ·rw[Uu (by simpa using hn)];omega
   ·rw[Us (by simpa using hn)];omega
  rw[hs,Qcd h,Int.neg_neg]
theorem Qhw {d:Dyadic}:(if Q20 d=true then -(Qay d) else Qay d)=d:=by
 unfold Qay
 split
 ·grind
 ·rfl
def At (s:LU) (p:Nat) (t:LU):Prop:=s.drop p=t
theorem At.byte {s:LU} {p:Nat} {c:UInt8} {t:LU} (h:At s p (c::t)):Q08 s p=c/\At s (p+1) t:=by
 unfold At at*;have hp:p<s.length:=by
  refine Xak fun B5=>?_;rw[Tc B5] at h;cases h
 rw[UB hp] at h;injection h with h1 h2;refine ⟨?_,h2⟩;unfold Q08;rw[Te,Ub hp];exact h1
theorem At.end_ {s:LU} {p:Nat} (h:At s p []):Q08 s p=0:=by
 unfold At at h;have hp:s.length<=p:=List.drop_eq_nil_iff.1 h;unfold Q08;rw[Te,UU hp];rfl
theorem At.app {s:LU} {p:Nat} {t u:LU} (h:At s p (t++u)):At s (p+t.length) u:=by
 unfold At at*;rw[<-List.drop_drop,h,List.drop_left]
theorem At.len {s:LU} {p:Nat} {t:LU} (h:At s p t) (hp:p<=s.length):s.length=p+t.length:=by
 unfold At at h;have:=congrArg List.length h;rw[Tu] at this;omega
theorem At.fixed {s:LU}:∀{t:LU} {p:Nat} {u:LU},At s p (t++u)->Q2e s t p=.ok (p+t.length)
 |[],p,u,_=>rfl
 |c::t,p,u,h=>by
  obtain ⟨h1,h2⟩:=At.byte (t:=t++u) h;rw[Q2e,Uu h1,At.fixed h2];simp only[Um]
  congr 1;omega
theorem At.skip0 {s:LU} {p:Nat} {c:UInt8} {t:LU} (h:At s p (c::t)) (hc:c≠32):Q05 s p=p:=Q7i (by rw[h.byte.1];exact hc)
theorem At.word {s:LU} {p:Nat} {t u:LU} (h:At s p (t++u)) (ha:Qk4 t) (hu:digN u=0):Q1k s p=p+t.length:=by
 unfold Q1k At at*;rw[h,Qbn t u ha,hu,TD]
def Qmf (u:LU):Prop:=digN u=0/\∀c r,u=c::r->c≠112
theorem Quj (e:Int) {u:LU} (hu:Qmf u):digN (Q9y e++u)=0:=by
 unfold Q9y
 split
 ·exact hu.1
 ·show digN (112::_)=0
  rw[digN,Us];decide
theorem Qo2 {s:LU} {p:Nat} {v:Nat} {e:Int} {u:LU} (h:At s p (Q21 false v e++u)) (hu:Qmf u):Qba s p=p+(Q21 false v e).length:=by
 have ht:Q21 false v e=dec v++Q9y e:=rfl;rw[ht,UN] at h;rw[ht];have hw:=h.word (Q4m v) (Quj e hu);have h2:=h.app;unfold Qba;rw[hw];unfold Q9y at h2⊢
 by_cases h0:e=0
 ·rw[Uu h0] at h2⊢;rw[TC] at h2;have P0:Q08 s (p+(dec v).length)≠112:=by
   cases u with
   |nil=>rw[h2.end_];decide
   |cons c r=>rw[h2.byte.1];exact hu.2 c r rfl
  rw[Us P0,Xaf]
 ·rw[Us h0] at h2⊢;obtain ⟨h3,h4⟩:=At.byte (t:=(if e<0 then 45::dec e.natAbs else dec e.natAbs)++u) h2;rw[Uu h3]
  by_cases X5:e<0
  ·rw[Uu X5] at h4⊢;obtain ⟨h5,h6⟩:=At.byte (t:=dec e.natAbs++u) h4;rw[Uu h5,h6.word (Q4m _) hu.1];simp only[Uh,Um];omega
  ·rw[Us X5] at h4⊢;have hd:=Q2z e.natAbs;have h5:Q08 s (p+(dec v).length+1)≠45:=by
    cases hc:dec e.natAbs with
    |nil=>rw[hc] at hd;simp at hd
    |cons c r=>
     rw[hc] at h4;have h6:=(At.byte (t:=r++u) h4).1;rw[h6];have:=Q4m e.natAbs c (by rw[hc];simp);rintro rfl;exact absurd this (by decide)
   rw[Us h5,h4.word (Q4m _) hu.1];simp only[Uh,Um];omega
theorem Quk (c a b j:Nat) (h:a*b<=j) (hc:0<c):(c^a)^b<=c^j:=by
 rw[<-Xab];exact UL hc h
theorem Qcl:(2^64)^64<=10^1300:=by
 have h1:((2:Nat)^64)^64=((2^64)^2)^32:=by rw[<-Xab (2^64) 2 32]
 rw[h1];exact Ul (Xbj (show ((2:Nat)^64)^2<=10^40 by decide) 32) (Quk 10 40 32 1300 (by decide) (by decide))
theorem Qcm (v:Nat) (e:Int):∃c r,Q21 false v e=c::r/\48<=c.toNat/\c.toNat<=57:=by
 have hd:=Q2z v;cases hc:dec v with
 |nil=>rw[hc] at hd;simp at hd
 |cons c r=>
  refine ⟨c,r++Q9y e,?_,Q4m v c (by rw[hc];simp)⟩
  show dec v++Q9y e=_
  rw[hc];rfl
theorem Qqy {s:LU} {p:Nat} {v:Nat} {e:Int} {u:LU} (h:At s p (Q21 false v e++u)) (hu:Qmf u) (h1: -65536<=e) (h2:e<=65536) (hv:v<(2^64)^64) (h0:v=0->e=0) (hf:Q64 (dy (sgn false v) e)):
 Qki s p=.ok (.num (some (dy (sgn false v) e)),p+(Q21 false v e).length):=by
 have hn:=Qo2 h hu;unfold Qki;rw[hn,Nat.add_sub_cancel_left];have ht:(s.drop p).take (Q21 false v e).length=Q21 false v e:=by
  unfold At at h;rw[h,List.take_left]
 rw[ht,Qhv false v e h1 h2 (Ue hv Qcl) (fun h=>⟨rfl,h0 h⟩)];simp only;rw[Uu ((Q1j _).2 hf)]
def nb (u:LU):UInt8:=(u.drop (Q8j u)).headD 0
theorem At.nb {s:LU} {q:Nat} {u:LU} (h:At s q u):Q08 s (Q05 s q)=nb u:=by
 unfold At at h;unfold Q05;rw[h];have h2:At s (q+Q8j u) (u.drop (Q8j u)):=by unfold At;rw[<-List.drop_drop,h]
 unfold Go.Proofs.YtidojbkhlenahaaGreatDoor.nb;cases hc:u.drop (Q8j u) with
 |nil=>rw[hc] at h2;exact h2.end_
 |cons c r=>rw[hc] at h2;exact h2.byte.1
def Qmg (u:LU):Prop:=Qmf u/\nb u≠94
def FR (most:Nat) (t:LU) (x:Ex):Prop:=(∃c r,t=c::r/\c≠32)/\∀(s:LU) (sub:Nat->PR Ex) (opens:Bool) (p:Nat) (u:LU),At s (Q05 s p) (t++u)->Qmg u->∃q,Q2s sub opens s most p=.ok (x,q)/\Q05 s q=Q05 s (Q05 s p+t.length)
theorem Qwh (most:Nat) {v:Nat} {e:Int} (h1: -65536<=e) (h2:e<=65536) (hv:v<(2^64)^64) (h0:v=0->e=0) (hf:Q64 (dy (sgn false v) e)):FR most (Q21 false v e) (.num (some (dy (sgn false v) e))):=by
 refine ⟨?_,fun s sub opens p u h hu=>?_⟩
 ·obtain ⟨c,r,hc,C2,_⟩:=Qcm v e;exact ⟨c,r,hc,fun e=>by rw[e] at C2;exact absurd C2 (by decide)⟩
 ·obtain ⟨c,r,hc,C2,A2⟩:=Qcm v e;have hb:Q08 s (Q05 s p)=c:=by
   have h':=h;rw[hc] at h';exact (At.byte (t:=r++u) h').1
  have hn:=Qqy h hu.1 h1 h2 hv h0 hf;have ha:Q08 s (Q05 s (Q05 s p+(Q21 false v e).length))=nb u:=(At.app h).nb;refine ⟨Q05 s (Q05 s p+(Q21 false v e).length),?_,Q97 _ _⟩;unfold Q2s Q69;rw[hb,Uu ⟨C2,A2⟩,hn];simp only;rw[Us (by rw[ha];exact hu.2)]
theorem Q6u {i:Nat} (h:i<10):dec i=[UInt8.ofNat (48+i)]:=Q1t h
theorem Q9a {i:Nat} (h:i<10):(UInt8.ofNat (48+i)).toNat=48+i:=Q4z i h
theorem Qmh {most i:Nat} (hi:i<9) (hm:i+1<=most) (s:LU) (sub:Nat->PR Ex) (opens:Bool) (p:Nat) (u:LU) (h:At s (Q05 s p) (120::(dec (i+1)++u))):Q69 sub opens s most p=.ok (.var i,Q05 s p+2):=by
 obtain ⟨h1,h2⟩:=h.byte;rw[Q6u (by omega)] at h2;obtain ⟨h3,h4⟩:=At.byte (t:=u) h2;unfold Q69;rw[h1,Us (by decide),Uu rfl,h3,Q9a (by omega),Uu (by omega)]
 congr 2
 congr 1
 omega
theorem Qym {most i:Nat} (hi:i<9) (hm:i+1<=most):FR most (120::dec (i+1)) (.var i):=by
 refine ⟨⟨_,_,rfl,by decide⟩,fun s sub opens p u h hu=>?_⟩;have hb:=Qmh hi hm s sub opens p u h;have hl:(120::dec (i+1)).length=2:=by rw[Q6u (by omega)];rfl
 have ha:Q08 s (Q05 s (Q05 s p+(120::dec (i+1)).length))=nb u:=(At.app (t:=120::dec (i+1)) h).nb;rw[hl] at ha⊢;refine ⟨Q05 s (Q05 s p+2),?_,Q97 _ _⟩;unfold Q2s;rw[hb];simp only;rw[Us (by rw[ha];exact hu.2)]
theorem Qyn {most i k:Nat} (hi:i<9) (hm:i+1<=most) (hk:k<=8):FR most (120::(dec (i+1)++94::dec k)) (.pow (.var i) k):=by
 refine ⟨⟨_,_,rfl,by decide⟩,fun s sub opens p u h hu=>?_⟩;have h':At s (Q05 s p) (120::(dec (i+1)++(94::(dec k++u)))):=by simpa using h
 have hb:=Qmh hi hm s sub opens p _ h';have hl:(120::dec (i+1)).length=2:=by rw[Q6u (by omega)];rfl
 have K0:(120::(dec (i+1)++94::dec k)).length=4:=by rw[Q6u (by omega),Q6u (i:=k) (by omega)];rfl
 have h2:At s (Q05 s p+2) (94::(dec k++u)):=by
  have:=At.app (t:=120::dec (i+1)) (u:=94::(dec k++u)) h';rwa[hl] at this
 obtain ⟨h3,h4⟩:=h2.byte;have Q5:=h2.skip0 (by decide);rw[Q6u (i:=k) (by omega)] at h4;obtain ⟨h5,h6⟩:=At.byte (t:=u) h4;have K4:=At.skip0 (t:=u) h4 (fun e=>by have:=congrArg UInt8.toNat e;rw[Q9a (by omega)] at this;have h32:(32:UInt8).toNat=32:=rfl;omega);rw[K0];refine ⟨Q05 s p+4,?_,rfl⟩;unfold Q2s;rw[hb];simp only;rw[Q5,Uu h3,K4,h5,Q9a (by omega),Uu (by omega)]
 congr 2
 congr 1
 omega
def FRs (most:Nat):List (LU)->List Ex->Prop
 |[],[]=>True
 |t::ts,x::xs=>FR most t x/\FRs most ts xs
 |_,_=>False
theorem Qqz {most:Nat}:∀{ts us:List (LU)} {xs ys:List Ex},FRs most ts xs->FRs most us ys->FRs most (ts++us) (xs++ys)
 |[],_,[],_,_,h=>h
 |_::_,_,_::_,_,h,h'=>⟨h.1,Qqz h.2 h'⟩
 |[],_,_::_,_,h,_=>h.elim
 |_::_,_,[],_,h,_=>h.elim
theorem Qul (t:LU):Qmg (42::t):=⟨⟨by rw[digN,Us];decide,fun c r h=>by injection h with h1 _;rw[<-h1];decide⟩,by simp[nb,Q8j]⟩
theorem Qcn {most:Nat} {s:LU} (sub:Nat->PR Ex) (opens:Bool) {u:LU} (hu:Qmg u) (hs:nb u≠42):∀(ts:List (LU)) (xs:List Ex) (f p:Nat) (acc:List Ex),ts≠[]->FRs most ts xs->ts.length<=f->At s (Q05 s p) (Q2k ts++u)->
 Q57 sub opens s most f p acc=.ok (.prod (acc++xs),Q05 s (Q05 s p+(Q2k ts).length))
 |[],_,_,_,_,h,_,_,_=>absurd rfl h
 |[t],[x],f+1,p,acc,_,hf,_,h=>by
  obtain ⟨q,h1,h2⟩:=hf.1.2 s sub opens p u h hu;have ha:Q08 s (Q05 s (Q05 s p+t.length))=nb u:=(At.app (t:=t) h).nb;unfold Q57;rw[h1];simp only;rw[h2,Us (by rw[ha];exact hs)];rfl
 |t::t'::ts,x::xs,f+1,p,acc,_,hf,hl,h=>by
  have h':At s (Q05 s p) (t++(42::(Q2k (t'::ts)++u))):=by simpa[Q2k] using h
  obtain ⟨q,h1,h2⟩:=hf.1.2 s sub opens p _ h' (Qul _);have h3:=At.app h';have h4:=h3.skip0 (by decide);obtain ⟨h5,h6⟩:=h3.byte;have P0:Q2k (t'::ts)++u≠[]/\Q05 s (Q05 s p+t.length+1)=Q05 s p+t.length+1:=by
   obtain ⟨c,r,hc,VE⟩:∃c r,Q2k (t'::ts)++u=c::r/\c≠32:=by
    have Y5:=hf.2;cases xs with
    |nil=>exact Y5.elim
    |cons y ys=>
     obtain ⟨c,r,hc,VE⟩:=Y5.1.1;subst hc;cases ts with
     |nil=>exact ⟨c,r++u,rfl,VE⟩
     |cons a b=>exact ⟨c,_,rfl,VE⟩
   rw[hc] at h6⊢;exact ⟨by simp,h6.skip0 VE⟩
  have ih:=Qcn sub opens hu hs (t'::ts) xs f (Q05 s p+t.length+1) (acc++[x]) (by simp) hf.2 (by simpa using hl) (by rw[P0.2];exact h6);unfold Q57;rw[h1];simp only;rw[h2,h4,Uu h5,ih,P0.2];simp only[Q2k,Uh,Um,UN,List.singleton_append]
  congr 3;omega
 |[t],[],_,_,_,_,hf,_,_=>hf.elim
 |_::_::_,[],_,_,_,_,hf,_,_=>hf.elim
 |[t],_::_::_,_,_,_,_,hf,_,_=>hf.2.elim
 |_::_,_,0,_,_,_,_,hl,_=>by simp at hl
def Qwi (i:Nat) (k:Int):List Ex:=if k=1 then [.var i] else if 1<k then [.pow (.var i) k.toNat] else []
def Qco:Nat->List Int->List Ex
 |_,[]=>[]
 |i,k::r=>Qwi i k++Qco (i+1) r
def Qcp (p:Q0l):List Ex:=if Q11 0 p.2=[]∨Qay p.1≠1 then .num (some (Qay p.1))::Qco 0 p.2 else Qco 0 p.2
def Qr0 (p:Q0l):Bool × Ex:=(Q20 p.1,.prod (Qcp p))
def Qbc (P:List Q0l):Ex:=if P=[] then .sum [(false,.prod [.num (some 0)])] else .sum (P.map Qr0)
theorem Qg8 {most:Nat}:∀(i:Nat) (E:List Int),i+E.length<=most->most<=9->(∀x∈E,0<=x/\x<=8)->FRs most (Q11 i E) (Qco i E)
 |_,[],_,_,_=>trivial
 |i,k::r,h,hm,hk=>by
  have ih:=Qg8 (i+1) r (by simp only[Um] at h;omega) hm (fun x hx=>hk x (by simp[hx]));have J2:=hk k (by simp);refine Qqz ?_ ih;simp only[Um] at h;unfold Q9z Qwi
  split
  ·exact ⟨Qym (by omega) (by omega),trivial⟩
  ·split
   ·exact ⟨Qyn (by omega) (by omega) (by omega),trivial⟩
   ·trivial
theorem Q7y:∀{E:List Int},(∀x∈E,0<=x)->0<=E.sum/\∀x∈E,x<=E.sum
 |[],_=>⟨by simp,fun x hx=>by cases hx⟩
 |a::E,h=>by
  obtain ⟨h1,h2⟩:=Q7y (E:=E) (fun x hx=>h x (by simp[hx]));have h3:=h a (by simp);rw[Xbp];refine ⟨by omega,fun x hx=>?_⟩;rcases UG.1 hx with rfl|hx
  ·omega
  ·have:=h2 x hx;omega
theorem Q27 {n:Nat} {E:List Int} (h:Q10 n E):∀x∈E,0<=x/\x<=8:=fun x hx=>by
 have h1:=(Q7y h.2.1).2 x hx;have h2:=h.2.1 x hx;have h3:=h.2.2;omega
theorem Qyo (most:Nat) {d:Dyadic} (h0:d≠0) (hf:Q64 d):FR most (dyT (Qay d)) (.num (some (Qay d))):=by
 rcases Qg7 d with rfl|⟨neg,v,e,ho,rfl⟩
 ·exact absurd rfl h0
 ·rw[Qg6 ho];rw[Qck ho];obtain ⟨h1,h2,h3⟩:=(Q93 (neg:=neg) ho).1 hf;exact Qwh most h2 h3 h1 (fun h=>by omega) ((Q93 (neg:=false) ho).2 ⟨h1,h2,h3⟩)
theorem Qhx {n most:Nat} {p:Q0l} (h0:p.1≠0) (h:Qeq n p) (hn:n<=most) (hm:most<=9):FRs most (Q3o p) (Qcp p)/\Q3o p≠[]:=by
 have h1:=Qg8 (most:=most) 0 p.2 (by rw[h.2.1];omega) hm (Q27 h.2);unfold Q3o Qcp
 split
 ·exact ⟨⟨Qyo most h0 h.1,h1⟩,by simp⟩
 ·rename_i hc;exact ⟨h1,fun e=>hc (.inl e)⟩
theorem Qr1 {most:Nat}:∀{ts:List (LU)} {xs:List Ex},FRs most ts xs->ts.length<=(Q2k ts).length
 |[],_,_=>by simp
 |[t],[x],h=>by
  obtain ⟨c,r,hc,_⟩:=h.1.1;simp only[Q2k,hc,Um,UP];omega
 |t::t'::ts,x::xs,h=>by
  have ih:=Qr1 h.2;simp only[Q2k,Uh,Um] at ih⊢;omega
 |[_],[],h=>h.elim
 |_::_::_,[],h=>h.elim
 |[_],_::_::_,h=>h.2.elim
def Qg9 (u:LU):Prop:=Qmg u/\nb u≠42
theorem Qhy {n most:Nat} {p0:Q0l} (h0:p0.1≠0) (h:Qeq n p0) (hn:n<=most) (hm:most<=9) {s:LU} (sub:Nat->PR Ex) (opens:Bool) {u:LU} (hu:Qg9 u) {p:Nat} (hp:p<=s.length) (ha:At s (Q05 s p) (Q1n p0++u)):
 Q57 sub opens s most (s.length+1) p []=.ok (.prod (Qcp p0),Q05 s (Q05 s p+(Q1n p0).length)):=by
 obtain ⟨h1,h2⟩:=Qhx h0 h hn hm;have h3:=Qr1 h1;have h4:=ha.len (Q3a hp);have h5:=Qcn sub opens hu.1 hu.2 (Q3o p0) (Qcp p0) (s.length+1) p [] h2 h1 (by
  have h6:(Q1n p0++u).length=(Q2k (Q3o p0)).length+u.length:=by rw[Uh];rfl
  rw[h6] at h4;omega) ha
 rw[TC] at h5;exact h5
theorem Qum (c:UInt8) (t:LU) (hc:c≠32) (A2:c≠94) (Js:c≠42):Qg9 (32::c::t):=by
 have hn:nb (32::c::t)=c:=by simp[nb,Q8j,hc]
 refine ⟨⟨⟨by rw[digN,Us];decide,fun x r h=>by injection h with h1 _;rw[<-h1];decide⟩,by rw[hn];exact A2⟩,by rw[hn];exact Js⟩
theorem Qmi {n most:Nat} (hn:n<=most) (hm:most<=9) {s:LU} (sub:Nat->PR Ex) (opens:Bool) {u:LU} (hu:Qg9 u) (JZ:nb u≠43) (Qu:nb u≠45):
 ∀(r:List Q0l) (p0:Q0l) (f p:Nat) (below:Bool) (acc:List (Bool × Ex)),(∀q∈p0::r,q.1≠0/\Qeq n q)->r.length<f->p<=s.length->At s (Q05 s p) (Q1n p0++(Q0m false r++u))->
 Qbb sub opens s most f p below acc=.ok (.sum (acc++(below,.prod (Qcp p0))::r.map Qr0),Q05 s (Q05 s p+(Q1n p0++Q0m false r).length))
 |[],p0,f+1,p,below,acc,hr,_,hp,ha=>by
  have ht:=Qhy (hr p0 (by simp)).1 (hr p0 (by simp)).2 hn hm sub opens hu hp ha;have hb:Q08 s (Q05 s (Q05 s p+(Q1n p0).length))=nb u:=(At.app (t:=Q1n p0) ha).nb;unfold Qbb;rw[ht];simp only;rw[Q97,hb,Us JZ,Us Qu];simp[Q0m]
 |q::r,p0,f+1,p,below,acc,hr,hl,hp,ha=>by
  obtain ⟨c,hc,x4,A2⟩:∃c:UInt8,Q31 false q=[32,c,32]/\(c=43/\Q20 q.1=false∨c=45/\Q20 q.1=true)/\c≠32:=by
   unfold Q31;rw[Us (by decide)];cases hb:Q20 q.1
   ·exact ⟨43,by rw[Us (by decide)],.inl ⟨rfl,rfl⟩,by decide⟩
   ·exact ⟨45,by rw[Uu rfl],.inr ⟨rfl,rfl⟩,by decide⟩
  have WM:At s (Q05 s p) (Q1n p0++(32::c::(32::(Q1n q++(Q0m false r++u))))):=by
   have e:Q0m false (q::r)++u=32::c::(32::(Q1n q++(Q0m false r++u))):=by
    rw[Q0m,hc];simp
   rw[<-e];exact ha
  have ht:=Qhy (hr p0 (by simp)).1 (hr p0 (by simp)).2 hn hm sub opens (Qum c _ A2 (by rcases x4 with ⟨rfl,_⟩|⟨rfl,_⟩ <;> decide) (by rcases x4 with ⟨rfl,_⟩|⟨rfl,_⟩ <;> decide)) hp WM;have h1:=At.app WM;obtain ⟨h2,h3⟩:=h1.byte;have h4:Q05 s (Q05 s p+(Q1n p0).length)=Q05 s p+(Q1n p0).length+1:=by rw[Q68 h2];exact h3.skip0 A2
  obtain ⟨h5,h6⟩:=h3.byte;obtain ⟨h7,h8⟩:=h6.byte;have Y0:Q05 s (Q05 s p+(Q1n p0).length+1+1)=Q05 s p+(Q1n p0).length+1+1+1:=by
   rw[Q68 h7];obtain ⟨j5,Y5⟩:=Qhx (hr q (by simp)).1 (hr q (by simp)).2 hn hm;obtain ⟨x,y,hx,Qk⟩:∃x y,Q1n q++(Q0m false r++u)=x::y/\x≠32:=by
    unfold Q1n;cases KN:Q3o q with
    |nil=>exact absurd KN Y5
    |cons t ts=>
     rw[KN] at j5;cases hte:Qcp q with
     |nil=>rw[hte] at j5;exact j5.elim
     |cons z zs=>
      rw[hte] at j5;obtain ⟨x,y,hx,Qk⟩:=j5.1.1;subst hx;cases ts with
      |nil=>exact ⟨x,_,rfl,Qk⟩
      |cons a b=>exact ⟨x,_,rfl,Qk⟩
   rw[hx] at h8;exact h8.skip0 Qk
  have K0:=Q0k h5 (by rcases x4 with ⟨rfl,_⟩|⟨rfl,_⟩ <;> decide);have o7:r.length<f:=by simp only[Um] at hl;omega
  have KQ:Q05 s p+(Q1n p0).length+1+1<=s.length:=K0;have ih:=fun (b:Bool) (acc':List (Bool × Ex))=>Qmi hn hm sub opens hu JZ Qu r q f (Q05 s p+(Q1n p0).length+1+1) b acc' (fun x hx=>hr x (by simp only[UG] at hx⊢;exact .inr hx)) o7 KQ (by rw[Y0];exact h8);have X2:Q05 s (Q05 s p+(Q1n p0).length+1+1+1+(Q1n q++Q0m false r).length)=Q05 s (Q05 s p+(Q1n p0++Q0m false (q::r)).length):=by
   congr 1
   simp only[Q0m,hc,Uh,Um,UP];omega
  unfold Qbb;rw[ht];simp only;rw[Q97,h4,h5];rcases x4 with ⟨rfl,hb⟩|⟨rfl,hb⟩
  ·rw[Uu rfl,ih,Y0,X2];simp[Qr0,hb]
  ·rw[Us (by decide),Uu rfl,ih,Y0,X2];simp[Qr0,hb]
 |_,_,0,_,_,_,_,hl,_,_=>by simp at hl
theorem Qun (t:LU):Qg9 (10::t)/\nb (10::t)=10/\Q8j (10::t)=0:=by
 have hn:nb (10::t)=10:=by simp[nb,Q8j]
 exact ⟨⟨⟨⟨by rw[digN,Us];decide,fun x r h=>by injection h with h1 _;rw[<-h1];decide⟩,by rw[hn];decide⟩,by rw[hn];decide⟩,hn,by simp[Q8j]⟩
theorem Qer {n most:Nat} {q:Q0l} (h0:q.1≠0) (h:Qeq n q) (hn:n<=most) (hm:most<=9):∃x y,Q1n q=x::y/\x≠32/\x≠45:=by
 unfold Q1n Q3o
 split
 ·rcases Qg7 q.1 with h1|⟨neg,v,e,ho,h1⟩
  ·exact absurd h1 h0
  ·rw[h1,Qg6 ho,Qck ho];obtain ⟨c,r,hc,C2,A2⟩:=Qcm v e;rw[hc];have a1:c≠32:=fun e=>by rw[e] at C2;exact absurd C2 (by decide)
   have a2:c≠45:=fun e=>by rw[e] at C2;exact absurd C2 (by decide)
   cases Q11 0 q.2 with
   |nil=>exact ⟨c,r,rfl,a1,a2⟩
   |cons t ts=>exact ⟨c,_,rfl,a1,a2⟩
 ·rename_i hc;have h1:=Qg8 (most:=most) 0 q.2 (by rw[h.2.1];omega) hm (Q27 h.2);have hx:∀(i:Nat) (E:List Int) t ts,Q11 i E=t::ts->∃r,t=120::r:=by
   intro i E
   induction E generalizing i with
   |nil=>intro t ts h;cases h
   |cons k r ih=>
    intro t ts h;simp only[Q11,Q9z] at h
    split at h
    ·injection h with h _;exact ⟨_,h.symm⟩
    ·split at h
     ·injection h with h _;exact ⟨_,h.symm⟩
     ·exact ih (i+1) t ts h
  cases hp:Q11 0 q.2 with
  |nil=>exact absurd (.inl hp) hc
  |cons t ts=>
   obtain ⟨r,rfl⟩:=hx 0 q.2 t ts hp;cases ts with
   |nil=>exact ⟨120,r,rfl,by decide,by decide⟩
   |cons a b=>exact ⟨120,_,rfl,by decide,by decide⟩
theorem Qkj:dyT 0=[48]:=rfl
theorem Qr2 {n most:Nat} (hn:n<=most) (hm:most<=9) {s:LU} (sub:Nat->PR Ex) (opens:Bool) {P:List Q0l} (hP:Q56 n P) {p0 p:Nat} (Zs:Q05 s p0=p) (hp:p<=s.length) {t:LU} (h2:At s p (Q4u P++10::t)):
 Q7j sub opens s most p0=.ok (Qbc P,p+(Q4u P).length):=by
 obtain ⟨XM,D5,he3⟩:=Qun t;cases P with
 |nil=>
  have Jl:At s p (Q21 false 0 0++10::t):=by
   have e:Q21 false 0 0=[48]:=(by simp[Q21,Q9y,Q1t]);rw[e];exact h2
  have e:(Q21 false 0 0).length=1:=by simp[Q21,Q9y,Q1t]
  have B6:=Qwh most (v:=0) (e:=0) (by decide) (by decide) (by decide) (fun _=>rfl) (by exact Qhn);have h3:=Qcn sub opens XM.1 XM.2 [Q21 false 0 0] [.num (some 0)] (s.length+1) p [] (by simp) ⟨B6,trivial⟩ (by simp) (by rw[h2.skip0 (by decide)];exact Jl);rw[h2.skip0 (by decide)] at h3;have h4:At s (p+1) (10::t):=by have:=At.app Jl;rwa[e] at this
  have h5:=h4.skip0 (by decide);simp only[Q2k,e,h5,TC] at h3;unfold Q7j;rw[Zs,h2.byte.1,Us (by decide),Qbb,h3];simp only;rw[h5,h4.byte.1,Us (by decide),Us (by decide)];rfl
 |cons q r=>
  have hq:=hP.2.2 q (by simp);obtain ⟨x,y,hx,Qk,hx45⟩:=Qer hq.1 hq.2 hn hm;have K0:=h2.len hp;have Zn:r.length<s.length+1:=by
   have:∀(l:List Q0l),l.length<=(Q0m false l).length:=fun l=>by
    induction l with
    |nil=>simp
    |cons a l ih=>
     have:1<=(Q31 false a).length:=(by unfold Q31;rw[Us (by decide)];split <;> simp);simp only[Q0m,Uh,Um];omega
   have h9:=this r;simp only[Q4u,Q0m,Uh,Um,reduceCtorEq,Xag] at K0;omega
  have Y0:=fun (b:Bool) (f':Nat) (h:At s (Q05 s f') (Q1n q++(Q0m false r++10::t))) (hf:f'<=s.length)=>Qmi hn hm sub opens XM (by rw[D5];decide) (by rw[D5];decide) r q (s.length+1) f' b [] hP.2.2 Zn hf h;have KN:Q4u (q::r)=Q31 true q++(Q1n q++Q0m false r):=by simp[Q4u,Q0m]
  rw[KN] at h2⊢;have Wl:∀p',At s p' (Q1n q++(Q0m false r++10::t))->Q05 s (p'+(Q1n q++Q0m false r).length)=p'+(Q1n q++Q0m false r).length:=fun p' h=>by
   have h':At s p' ((Q1n q++Q0m false r)++10::t):=(by rw[UN];exact h);exact (At.app h').skip0 (by decide)
  cases V5:Q20 q.1
  ·have P2:Q31 true q=[]:=(by simp[Q31,V5]);rw[P2,TC] at h2;rw[P2,TC];have Jl:At s p (Q1n q++(Q0m false r++10::t)):=(by rw[<-UN];exact h2);have h3:At s p (x::(y++(Q0m false r++10::t))):=(by rw[hx] at Jl;exact Jl);have D2:=h3.skip0 Qk;unfold Q7j;rw[Zs,h3.byte.1,Us hx45,Y0 false p (by rw[D2];exact Jl) (by omega),D2,Wl _ Jl];simp[Qbc,Qr0,V5]
  ·have P2:Q31 true q=[45]:=(by simp[Q31,V5]);rw[P2] at h2⊢;have h2'':At s p (45::(Q1n q++(Q0m false r++10::t))):=(by simpa using h2);obtain ⟨h6,Jl⟩:=h2''.byte;have E0:=Q0k h6 (by decide);have h3:At s (p+1) (x::(y++(Q0m false r++10::t))):=(by rw[hx] at Jl;exact Jl);have D2:=h3.skip0 Qk;unfold Q7j;rw[Zs,h6,Uu rfl,Y0 true (p+1) (by rw[D2];exact Jl) (by omega),D2,Wl _ Jl];simp only[Qbc,Qr0,V5,TC,Xai,reduceCtorEq,Xag,Uh,Um,UP]
   congr 2
   omega
theorem Qbo:Q64 1:=(Q1j 1).1 (by decide)
theorem Qr3:(1:Dyadic)≠0:=by decide
theorem Qx4 {c:Dyadic} {E:List Int} (h0:c≠0) (hf:Q64 c):Q3q [(c,E)]=.ok [(c,E)]:=by
 unfold Q3q;have hg:Q3u [(c,E)]=[(c,E)]:=rfl;rw[hg];simp[(Q1j c).2 hf,h0]
theorem Qo3 (E:List Int):Q3q [(0,E)]=.ok []:=by
 unfold Q3q;have hg:Q3u [((0:Dyadic),E)]=[(0,E)]:=rfl;rw[hg];simp[(Q1j 0).2 Qhn]
theorem deg1 (c:Dyadic) (E:List Int) (h:0<=E.sum):Qpz [(c,E)]=E.sum:=by
 simp only[Qpz,Xbg,List.foldl_nil];omega
theorem mul1 {c d:Dyadic} {E F:List Int} (h0:c*d≠0) (hf:Q64 (c*d)) (hE:0<=E.sum) (hF:0<=F.sum) (hs:E.sum+F.sum<=8):Qhq [(c,E)] [(d,F)]=.ok [(c*d,List.zipWith (·+·) E F)]:=by
 have hp:Qg3 [(c,E)] [(d,F)]=[(c*d,List.zipWith (·+·) E F)]:=rfl;unfold Qhq;rw[Us (by rw[deg1 c E hE,deg1 d F hF];omega),hp,Us (by simp[(Q1j _).2 hf]),Qx4 h0 hf]
def Q38 (n i:Nat) (k:Int):List Int:=(List.replicate n 0).set i k
theorem Qhz (n:Nat):(List.replicate n (0:Int)).sum=0:=by
 induction n with
 |zero=>rfl
 |succ n ih=>rw[TX,Xbp,ih];rfl
theorem Q4h:∀(n i:Nat) (k:Int),i<n->(Q38 n i k).sum=k
 |n+1,0,k,_=>by simp[Q38,TX]
 |n+1,i+1,k,h=>by
  have:=Q4h n i k (by omega);unfold Q38 at*;rw[TX,Uv,Xbp,this];omega
theorem Qi0:∀(n i:Nat) (a b:Int),List.zipWith (·+·) (Q38 n i a) (Q38 n i b)=Q38 n i (a+b)
 |0,i,a,b=>by simp[Q38]
 |n+1,0,a,b=>by
  simp only[Q38,TX,Ux,Xaz]
  congr 1
  rw[List.zipWith_replicate];simp
 |n+1,i+1,a,b=>by
  have:=Qi0 n i a b;simp only[Q38,TX,Uv,Xaz] at this⊢;rw[this];rfl
theorem Qi1 {n i:Nat} (hi:i<n):∀k:Nat,k+1<=8->Qkh [(1,Q38 n i 1)] k=.ok [(1,Q38 n i ((k:Int)+1))]
 |0,_=>rfl
 |k+1,h=>by
  rw[Qkh,Qi1 hi k (by omega)];simp only;have hm:=mul1 (c:=1) (d:=1) (E:=Q38 n i ((k:Int)+1)) (F:=Q38 n i 1) (by decide) (by have:=Qbo;rwa[Dyadic.mul_one]) (by rw[Q4h _ _ _ hi];omega) (by rw[Q4h _ _ _ hi];omega) (by rw[Q4h _ _ _ hi,Q4h _ _ _ hi];omega);rw[hm,Dyadic.mul_one,Qi0];simp
theorem Qmj {n i:Nat}:Q2b n (.var i)=.ok [(1,Q38 n i 1)]:=by
 rw[Q2b];exact Qx4 Qr3 Qbo
theorem Qmk {n i:Nat} (hi:i<n) {k:Int} (h1:1<=k) (h8:k<=8):∃x,Qwi i k=[x]/\Q2b n x=.ok [(1,Q38 n i k)]:=by
 unfold Qwi
 split
 ·rename_i h;subst h;exact ⟨_,rfl,Qmj⟩
 ·rw[Uu (by omega)];refine ⟨_,rfl,?_⟩;obtain ⟨j,hj⟩:∃j,k.toNat=j+1:=⟨k.toNat-1,by omega⟩;rw[Q2b,Qmj];simp only;rw[hj]
  show Qkh _ j=_
  rw[Qi1 hi j (by omega)]
  congr 4
  omega
def Q4i (E:List Int) (i:Nat):List Int:=E.take i++List.replicate (E.length-i) 0
theorem Qa7:∀(E:List Int) (i:Nat) (k:Int),E[i]?=some k->List.zipWith (·+·) (Q4i E i) (Q38 E.length i k)=Q4i E (i+1)
 |[],i,k,h=>by simp at h
 |a::E,0,k,h=>by
  simp only[US,Up] at h;subst h;simp only[Q4i,Q38,List.take_zero,TC,Um,Nat.sub_zero,TX,Ux,Xaz,List.take_succ_cons,To];rw[show E.length+1-(0+1)=E.length by omega,List.zipWith_replicate];simp
 |a::E,i+1,k,h=>by
  have ih:=Qa7 E i k (by simpa using h);simp only[Q4i,Q38,Um,TX,Uv,List.take_succ_cons,To,Xaz] at ih⊢;rw[show E.length+1-(i+1)=E.length-i by omega,show E.length+1-(i+1+1)=E.length-(i+1) by omega,ih];simp
theorem Qes {E:List Int} {i:Nat} (h:E[i]?=some 0):Q4i E (i+1)=Q4i E i:=by
 have hi:i<E.length:=(Ui.1 h).1;have h0:E[i]=0:=(Ui.1 h).2;unfold Q4i;rw[Tr,h,show E.length-i=(E.length-(i+1))+1 by omega,TX];simp
theorem Qbp {E:List Int} (h:∀x∈E,0<=x) (i:Nat):0<=(E.take i).sum/\(E.take i).sum<=E.sum:=by
 have h1:=(Q7y (E:=E.take i) (fun x hx=>h x (Ts hx))).1;have h2:=(Q7y (E:=E.drop i) (fun x hx=>h x (List.mem_of_mem_drop hx))).1;have h3:E.sum=(E.take i).sum+(E.drop i).sum:=by
  conv=>lhs;rw[<-Xbf i E]
  rw[List.sum_append]
 omega
theorem Qi2 (E:List Int) (i:Nat):(Q4i E i).sum=(E.take i).sum:=by
 unfold Q4i;rw[List.sum_append,Qhz];omega
theorem Qcq {E:List Int} (hE:Q10 E.length E) {c:Dyadic} (h0:c≠0) (hf:Q64 c):∀(r:List Int) (i:Nat),E.drop i=r->Q4l E.length (some [(c,Q4i E i)]) (Qco i r)=.ok [(c,E)]
 |[],i,h=>by
  have B5:=List.drop_eq_nil_iff.1 h;rw[Qco,Q4l];simp only[Xaw];rw[show Q4i E i=E by unfold Q4i;rw[Uz B5,show E.length-i=0 by omega];simp]
 |k::r,i,h=>by
  have hi:i<E.length:=by
   refine Xak fun B5=>?_;rw[Tc B5] at h;cases h
  have hk:E[i]?=some k:=by
   have:=congrArg (fun l=>l[0]?) h;simpa using this
  have hr:E.drop (i+1)=r:=by
   rw[UB hi] at h;injection h
  have ih:=Qcq hE h0 hf r (i+1) hr;have hks:=Q27 hE k (Ug hk);have I3:=Qbp hE.2.1 i;have F2:=Qbp hE.2.1 (i+1);have Xm:(E.take (i+1)).sum=(E.take i).sum+k:=by
   rw[Tr,hk,List.sum_append];simp
  by_cases Jv:k=0
  ·subst Jv;have hfe:Qwi i 0=[]:=(by simp[Qwi]);rw[Qco,hfe,TC,<-Qes hk];exact ih
  ·obtain ⟨x,hx,hev⟩:=Qmk (n:=E.length) hi (k:=k) (by omega) (by omega);rw[Qco,hx,List.singleton_append,Q4l,hev];simp only;have hm:=mul1 (c:=c) (d:=1) (E:=Q4i E i) (F:=Q38 E.length i k) (by rw[Dyadic.mul_one];exact h0) (by rw[Dyadic.mul_one];exact hf) (by rw[Qi2];omega) (by rw[Q4h _ _ _ hi];omega) (by rw[Qi2,Q4h _ _ _ hi];have:=hE.2.2;omega);rw[hm,Dyadic.mul_one,Qa7 E i k hk];exact ih
theorem Qkk {E:List Int} {i:Nat} (hi:i<E.length) (h:∀j,j<i->E[j]?=some 0) (k:Int) (hk:E[i]?=some k):Q38 E.length i k=Q4i E (i+1):=by
 rw[<-Qa7 E i k hk];have hz:∀j,j<=i->Q4i E j=List.replicate E.length 0:=by
  intro j
  induction j with
  |zero=>intro _;simp[Q4i]
  |succ j ih=>
   intro hj;rw[Qes (h j (by omega))];exact ih (by omega)
 rw[hz i (Uf _)]
 apply Xax
 intro j;rw[List.getElem?_zipWith];unfold Q38
 by_cases hj:j<E.length
 ·rw[List.getElem?_set,TK,Uu hj]
  by_cases XG:i=j
  ·subst XG;simp[hi]
  ·rw[Us XG];simp
 ·rw[UU (by simp;omega),UU (l:=List.replicate E.length 0) (by simp;omega)]
theorem Qet {E:List Int} (hE:Q10 E.length E):∀(r:List Int) (i:Nat),E.drop i=r->(∀j,j<i->E[j]?=some 0)->Q11 i r≠[]->Q4l E.length none (Qco i r)=.ok [(1,E)]
 |[],i,_,_,P0=>absurd rfl P0
 |k::r,i,h,hz,P0=>by
  have hi:i<E.length:=by
   refine Xak fun B5=>?_;rw[Tc B5] at h;cases h
  have hk:E[i]?=some k:=by
   have:=congrArg (fun l=>l[0]?) h;simpa using this
  have hr:E.drop (i+1)=r:=by
   rw[UB hi] at h;injection h
  have hks:=Q27 hE k (Ug hk)
  by_cases Jv:k=0
  ·subst Jv;have hfe:Qwi i 0=[]:=(by simp[Qwi]);have hpe:Q9z i 0=[]:=(by simp[Q9z]);rw[Q11,hpe,TC] at P0;rw[Qco,hfe,TC];refine Qet hE r (i+1) hr (fun j hj=>?_) P0
   by_cases hji:j=i
   ·subst hji;exact hk
   ·exact hz j (by omega)
  ·obtain ⟨x,hx,hev⟩:=Qmk (n:=E.length) hi (k:=k) (by omega) (by omega);rw[Qco,hx,List.singleton_append,Q4l,hev];simp only;rw[Qkk hi hz k hk];exact Qcq hE Qr3 Qbo r (i+1) hr
theorem Qr4 {d:Dyadic} (h:d≠0):Qay d≠0:=by
 unfold Qay
 split
 ·intro e;refine h ?_;have:d= - -d:=by grind
  rw[this,e];rfl
 ·exact h
theorem Qi3 {d:Dyadic} (h:Q64 d):Q64 (Qay d):=by
 unfold Qay
 split
 ·exact Quh h
 ·exact h
theorem Qi4 {n:Nat} {p:Q0l} (h0:p.1≠0) (h:Qeq n p):Q2b n (.prod (Qcp p))=.ok [(Qay p.1,p.2)]:=by
 obtain ⟨hl,hE⟩:p.2.length=n/\Q10 p.2.length p.2:=⟨h.2.1,by rw[h.2.1];exact h.2⟩;rw[Q2b];unfold Qcp
 split
 ·rw[Q4l,Q2b,Qx4 (Qr4 h0) (Qi3 h.1)];simp only;have:=Qcq hE (Qr4 h0) (Qi3 h.1) p.2 0 rfl;rw[hl] at this;rw[<-this]
  congr 4
  simp[Q4i,hl]
 ·rename_i hc;have h1:Qay p.1=1:=Classical.byContradiction fun e=>hc (.inr e);have:=Qet hE p.2 0 rfl (fun j hj=>absurd hj (Tk _)) (fun e=>hc (.inl e));rw[hl] at this;rw[this,h1]
theorem Qkl {n:Nat} {Q r:List Q0l} (h:Q56 n (Q++r)):Q56 n Q:=
 ⟨(List.pairwise_append.1 h.1).1,by have:=h.2.1;rw[Uh] at this;omega,fun p hp=>h.2.2 p (by simp[hp])⟩
theorem Qeu {n:Nat}:∀(r Q:List Q0l),Q56 n (Q++r)->Q4t n (some Q) (r.map Qr0)=.ok (Q++r)
 |[],Q,_=>by simp[Q4t]
 |p::r,Q,h=>by
  have hp:=h.2.2 p (by simp);have h':Q56 n ((Q++[p])++r):=by rw[UN];exact h
  have h1:=Qkl h';have ih:=Qeu r (Q++[p]) h';rw[Xai];unfold Qr0;rw[Q4t,Qi4 hp.1 hp.2];simp only;have ht:(if Q20 p.1=true then Q96 [(Qay p.1,p.2)] else [(Qay p.1,p.2)])=[p]:=by
   have h2:=Qhw (d:=p.1)
   split
   ·rename_i hb;rw[Uu hb] at h2;simp[Q96,h2]
   ·rename_i hb;rw[Us hb] at h2;rw[h2]
  rw[ht,Qui,Qhp h1];simp only;rw[show r.map (fun p=>(Q20 p.1,Ex.prod (Qcp p)))=r.map Qr0 from rfl,ih,UN];rfl
theorem Qr5 {n:Nat} {P:List Q0l} (h:Q56 n P):Q2b n (Qbc P)=.ok P:=by
 cases P with
 |nil=>
  simp only[Qbc,Xa8,Q2b,Q4t,Q4l,Qo3];rfl
 |cons p r=>
  have hp:=h.2.2 p (by simp);have h1:=Qeu r [p] h;have ht:(if Q20 p.1=true then Q96 [(Qay p.1,p.2)] else [(Qay p.1,p.2)])=[p]:=by
   have h2:=Qhw (d:=p.1)
   split
   ·rename_i hb;rw[Uu hb] at h2;simp[Q96,h2]
   ·rename_i hb;rw[Us hb] at h2;rw[h2]
  simp only[Qbc,reduceCtorEq,Xag,Xai];rw[Q2b];unfold Qr0;rw[Q4t,Qi4 hp.1 hp.2];simp only;rw[ht,show r.map (fun p=>(Q20 p.1,Ex.prod (Qcp p)))=r.map Qr0 from rfl,h1];rfl
theorem Q7z (i:Nat) (hi:i<9):(Q3f i).length=6:=by rw[Q3f,Q6u (by omega)];rfl
theorem Qr6 {n most i:Nat} (hn:n<=most) (hm:most<=9) {s:LU} {P:List Q0l} (hP:Q56 n P) {p:Nat} {t:LU} (ha:At s p (Q5o i P++t)) (hp:p<=s.length):Qg5 s most i p=.ok (Qbc P,p+(Q5o i P).length):=by
 have h1:At s p (Q3f i++(Q4u P++10::t)):=by simpa[Q5o] using ha
 have h2:=At.fixed h1;have h3:=At.app h1;have K0:=h1.len hp;rw[Uh] at K0;have Zs:Q05 s (p+(Q3f i).length)=p+(Q3f i).length:=by
  cases P with
  |nil=>exact At.skip0 (t:=10::t) h3 (by decide)
  |cons q r=>
   have hq:=hP.2.2 q (by simp);obtain ⟨x,y,hx,Qk,hx45⟩:=Qer (most:=most) hq.1 hq.2 hn hm;cases hb:Q20 q.1
   ·have e:Q4u (q::r)=x::(y++Q0m false r):=(by simp[Q4u,Q0m,Q31,hb,hx]);rw[e] at h3;exact At.skip0 (t:=(y++Q0m false r)++10::t) h3 Qk
   ·have e:Q4u (q::r)=45::(Q1n q++Q0m false r):=(by simp[Q4u,Q0m,Q31,hb]);rw[e] at h3;exact At.skip0 (t:=(Q1n q++Q0m false r)++10::t) h3 (by decide)
 have h4:=Qr2 hn hm (Q84 s most 15) true hP Zs (by omega) h3;have h5:=At.app h3;have h6:=h5.skip0 (by decide);unfold Qg5;rw[h2];simp only;rw[show Q84 s most 16=Q7j (Q84 s most 15) true s most from rfl,h4];simp only;rw[h6,Uu h5.byte.1]
 congr 2
 simp only[Q5o,Uh,Um,UP];omega
theorem Qev {n most:Nat} (hn:n<=most) (hm:most<=9) {s:LU}:∀(F:List (List Q0l)) (f p:Nat) (acc:List (Nat × Ex)),F≠[]->F.length<=f->(∀P∈F,Q56 n P)->p<=s.length->At s p (Q0u acc.length F)->
 ∃ls:List (Nat × Ex),Q4s s most f p acc=.ok (acc++ls)/\ls.map (·.2)=F.map Qbc
 |[],_,_,_,h,_,_,_,_=>absurd rfl h
 |P::F,f+1,p,acc,_,hf,hr,hp,ha=>by
  have h1:=Qr6 hn hm (hr P (by simp)) (t:=Q0u (acc.length+1) F) ha hp;have h2:=At.app (t:=Q5o acc.length P) ha;have hlen0:=At.len (t:=Q5o acc.length P++Q0u (acc.length+1) F) ha hp;rw[Uh] at hlen0;have KQ:p+(Q5o acc.length P).length<=s.length:=by omega
  have K0:=h2.len KQ;unfold Q4s;rw[h1];simp only;cases F with
  |nil=>
   simp only[Q0u,UP] at K0;rw[Us (by omega)];exact ⟨[(p,Qbc P)],rfl,rfl⟩
  |cons Q F=>
   have F6:0<(Q0u (acc.length+1) (Q::F)).length:=by
    simp only[Q0u,Q5o,Q3f,Uh,Um];omega
   rw[Uu (by omega)];obtain ⟨ls,h3,h4⟩:=Qev hn hm (Q::F) f (p+(Q5o acc.length P).length) (acc++[(p,Qbc P)]) (by simp) (by simpa using hf) (fun x hx=>hr x (by simp only[UG] at hx⊢;exact .inr hx)) KQ (by rw[Uh];exact h2);refine ⟨(p,Qbc P)::ls,?_,by simp[h4]⟩;rw[h3,UN];rfl
 |_::_,0,_,_,_,h,_,_,_=>by simp at h
theorem Qew {n:Nat}:∀(F:List (List Q0l)) (ls:List (Nat × Ex)) (acc:List (List Q0l)),ls.map (·.2)=F.map Qbc->(∀P∈F,Q56 n P)->Q30 n ls acc=.ok (acc++F)
 |[],[],acc,_,_=>by simp[Q30]
 |P::F,(p,x)::ls,acc,h,hr=>by
  simp only[Xai,List.cons.injEq] at h;rw[Q30,h.1,Qr5 (hr P (by simp))];simp only;rw[Qew F ls (acc++[P]) h.2 (fun Q hQ=>hr Q (by simp[hQ])),UN];rfl
 |[],_::_,_,h,_=>by simp at h
 |_::_,[],_,h,_=>by simp at h
theorem Q43 (n:Nat):(dec n).count 10=0:=by
 rw[List.count_eq_zero];intro h;have:=Q4m n 10 h;exact absurd this (by decide)
theorem Qkm (neg:Bool) (v:Nat) (e:Int):(Q21 neg v e).count 10=0:=by
 unfold Q21 Q9y;have h1:=Q43 v;have h2:=Q43 e.natAbs;have h3:(if e<0 then 45::dec e.natAbs else dec e.natAbs).count 10=0:=by split <;> simp[h2]
 have h4:(if e=0 then [] else 112::(if e<0 then 45::dec e.natAbs else dec e.natAbs)).count 10=0:=by
  split
  ·rfl
  ·rw[Xan,h3];rfl
 rw[Tz,Tz,h1,h4];cases neg <;> rfl
theorem Q9b (d:Dyadic):(dyT d).count 10=0:=by
 cases d with
 |zero=>decide
 |ofOdd n k h=>exact Qkm _ _ _
theorem Q8k:∀(i:Nat) (E:List Int),∀t∈Q11 i E,t.count 10=0
 |_,[],_,h=>by cases h
 |i,k::r,t,h=>by
  have h1:=Q43 (i+1);have h2:=Q43 k.toNat;rw[Q11] at h;rcases Tp.1 h with h|h
  ·unfold Q9z at h
   split at h
   ·rw[UC] at h;subst h;rw[Xan,h1];rfl
   ·split at h
    ·rw[UC] at h;subst h;rw[Xan,Tz,Xan,h1,h2];rfl
    ·cases h
  ·exact Q8k (i+1) r t h
theorem Qcr:∀(l:List (LU)),(∀t∈l,t.count 10=0)->(Q2k l).count 10=0
 |[],_=>rfl
 |[x],h=>h x (by simp)
 |x::y::r,h=>by
  have h1:=h x (by simp);have ih:=Qcr (y::r) (fun t ht=>h t (by simp only[UG] at ht⊢;exact .inr ht));rw[Q2k,Tz,Xan,h1,ih];rfl
theorem Qkn (p:Q0l):(Q1n p).count 10=0:=by
 refine Qcr _ fun t ht=>?_;unfold Q3o at ht
 split at ht
 ·rcases UG.1 ht with rfl|ht
  ·exact Q9b _
  ·exact Q8k _ _ t ht
 ·exact Q8k _ _ t ht
theorem Qaz:∀(b:Bool) (l:List Q0l),(Q0m b l).count 10=0
 |_,[]=>rfl
 |b,p::r=>by
  have h1:(Q31 b p).count 10=0:=by unfold Q31;split <;> split <;> decide
  rw[Q0m,Tz,Tz,h1,Qkn,Qaz false r]
theorem Qml (P:List Q0l):(Q4u P).count 10=0:=by
 unfold Q4u
 split
 ·decide
 ·exact Qaz _ _
theorem Quo (i:Nat) (P:List Q0l):(Q5o i P).count 10=1:=by
 rw[Q5o,Q3f,Tz,Xan,Tz,Tz,Qml,Q43];rfl
theorem Qcs:∀(i:Nat) (F:List (List Q0l)),(Q0u i F).count 10=F.length
 |_,[]=>rfl
 |i,P::F=>by rw[Q0u,Tz,Quo,Qcs (i+1) F,Um];omega
theorem Qo4 {F:List (List Q0l)} (h:Qqx F):Q99 (Q0u 0 F)=.ok F:=by
 obtain ⟨h1,h4,hr⟩:=h;have P0:F≠[]:=fun e=>by rw[e] at h1;simp at h1
 obtain ⟨ls,h2,h3⟩:=Qev (n:=F.length) (most:=F.length) (Uf _) (by omega) (s:=Q0u 0 F) F 4 0 [] P0 h4 hr (Ut _) rfl;have hl:ls.length=F.length:=by have:=congrArg List.length h3;simpa using this
 unfold Q99;rw[Qcs,show min F.length 4=F.length by omega,h2];simp only[TC];rw[hl,Qew F ls [] h3 hr];rfl
def Qeb (b:UInt8):LU->Option (LU × LU)
 |[]=>none
 |c::r=>if c=b then some ([],r) else (Qeb b r).map fun p=>(c::p.1,p.2)
def Q85 (s:LU) (p:Nat):Option (LU):=(Qeb 10 (s.drop p)).map Prod.fst
def Q5p (w l:LU):Option (LU):=if (w++[32]).isPrefixOf l=true then some (l.drop (w.length+1)) else none
def Q2t (t:LU):Option Nat:=if 1<=t.length/\t.length<=4/\t.headD 0≠48/\digN t=t.length then some (dv t) else none
def Qga (t:LU):Option (Option Dyadic):=
 match form t with
 |none=>none
 |some (neg,v,e)=>some (if Qa4 (dy (sgn neg v) e)=true then some (dy (sgn neg v) e) else none)
def Qbd:LU:=[112,114,101,99]
def Q74:LU:=[111,114,100,101,114]
def Q4n:LU:=[98,117,100,103,101,116]
def Q75:LU:=[117,110,116,105,108]
def Qct:LU:=[109,111,115,116]
def Q7k:LU:=[108,101,97,115,116]
def Qh9:LU:=[98,111,120]
structure PrS where
 prec:Nat
 order:Nat
 budget:Nat
 til:Option Dyadic
 most:Option Dyadic
 least:Option Dyadic
 box:List (Option Dyadic × Option Dyadic)
 over:Option Nat
def PrS.empty:PrS:=⟨0,0,0,some 0,some 0,some 0,[],none⟩
def Q5q (o:Option Nat) (p:Nat) (d:Option Dyadic):Option Nat:=
 match o,d with
 |some q,_=>some q
 |none,some _=>none
 |none,none=>some p
def Qex (l:LU):Option (Option Dyadic × Option Dyadic):=
 match (Q5p Qh9 l).bind (Qeb 32) with
 |none=>none
 |some (lo,hi)=>match Qga lo,Qga hi with
  |some x,some y=>some (x,y)
  |_,_=>none
def Q4v (i p:Nat) (l:LU) (st:PrS):Option PrS:=
 match i with
 |0=>((Q5p Qbd l).bind Q2t).map fun n=>{ st with prec:=n }
 |1=>((Q5p Q74 l).bind Q2t).map fun n=>{ st with order:=n }
 |2=>((Q5p Q4n l).bind Q2t).map fun n=>{ st with budget:=n }
 |3=>((Q5p Q75 l).bind Qga).map fun d=>{ st with til:=d,over:=Q5q st.over p d }
 |4=>((Q5p Qct l).bind Qga).map fun d=>{ st with most:=d,over:=Q5q st.over p d }
 |5=>((Q5p Q7k l).bind Qga).map fun d=>{ st with least:=d,over:=Q5q st.over p d }
 |_=>if st.box.length<4 then (Qex l).map fun b=>{ st with box:=st.box++[b],over:=Q5q (Q5q st.over p b.1) p b.2 } else none
def Qey (s:LU):Nat->Nat->Nat->PrS->Except (Nat × Int) (Nat × PrS)
 |0,_,p,_=>.error (p,5)
 |f+1,i,p,st=>
  match Q85 s p with
  |none=>if i<=6 then .error (s.length,5) else .ok (p,st)
  |some l=>match Q4v i p l st with
   |none=>if 6<i then .ok (p,st) else .error (p,5)
   |some st'=>Qey s f (i+1) (p+l.length+1) st'
structure Qa8 where
 field:List (List Q0l)
 box:List (Dyadic × Dyadic)
 til:Dyadic
 most:Dyadic
 least:Dyadic
 prec:Nat
 order:Nat
 budget:Nat
def PrS.prob (st:PrS) (F:List (List Q0l)):Qa8:=⟨F,st.box.map fun b=>(b.1.getD 0,b.2.getD 0),st.til.getD 0,st.most.getD 0,st.least.getD 0,st.prec,st.order,st.budget⟩
def Qo5 (s:LU):Except (Nat × Int) Qa8:=
 match Qey s (s.length+1) 0 0 PrS.empty with
 | .error e=>.error e
 | .ok (p,st)=>match Q99 (s.drop p),st.over with
   | .error (q,5),_=>.error (p+q,5)
   |_,some o=>.error (o,2)
   | .error (q,e),none=>.error (p+q,e)
   | .ok F,none=>.ok (st.prob F)
def Q7a (d:Dyadic):Prop:=d≠0/\Q20 d=false
def Qec (x y:Dyadic):Prop:=Q20 (y-x)=false
structure Qgb (p:Qa8):Prop where
 field:Qqx p.field
 box:∀b∈p.box,Q64 b.1/\Q64 b.2/\Qec b.1 b.2
 same:p.box.length=p.field.length
 til:Q64 p.til/\Q7a p.til
 most:Q64 p.most/\Q7a p.most
 least:Q64 p.least/\Q7a p.least
 ord:Qec p.least p.most
 prec:8<=p.prec/\p.prec<=256
 order:2<=p.order/\p.order<=10
 budget:1<=p.budget/\p.budget<=4096
def Q22 (w t:LU):LU:=w++32::(t++[10])
def Q7l:List (Dyadic × Dyadic)->LU
 |[]=>[]
 |b::r=>Q22 Qh9 (dyT b.1++32::dyT b.2)++Q7l r
def Qcu (p:Qa8):LU:=
 Q22 Qbd (dec p.prec)++(Q22 Q74 (dec p.order)++(Q22 Q4n (dec p.budget)++(Q22 Q75 (dyT p.til)++(Q22 Qct (dyT p.most)++(Q22 Q7k (dyT p.least)++(Q7l p.box++Q0u 0 p.field))))))
theorem Qgc (b:UInt8):∀(l u:LU),l.count b=0->Qeb b (l++b::u)=some (l,u)
 |[],u,_=>by simp[Qeb]
 |c::r,u,h=>by
  have h1:c≠b:=fun e=>by rw[e,List.count_cons_self] at h;omega
  rw[List.count_cons_of_ne h1] at h;rw[To,Qeb,Us h1,Qgc b r u h];rfl
theorem At.cut {s:LU} {p:Nat} {l u:LU} (h:At s p (l++u)):At s (p+l.length) u:=by
 unfold At at*;rw[<-List.drop_drop,h,List.drop_left]
theorem Qmm {s:LU} {p:Nat} {l u:LU} (h:At s p (l++10::u)) (hl:l.count 10=0):Q85 s p=some l:=by
 unfold Q85;rw[show s.drop p=l++10::u from h,Qgc 10 l u hl];rfl
theorem Q58 (w t:LU):Q5p w (w++32::t)=some t:=by
 unfold Q5p;have h1:(w++[32]).isPrefixOf (w++32::t)=true:=by
  rw[List.isPrefixOf_iff_prefix];exact ⟨t,by simp⟩
 have h2:w++32::t=(w++[32])++t:=by simp
 rw[Uu h1,h2,List.drop_left' (by simp)]
theorem Qa9 {n:Nat} (h1:1<=n) (h2:n<10^4):Q2t (dec n)=some n:=by
 unfold Q2t;have h3:=Qbn (dec n) [] (Q4m n);rw[Xaf] at h3;rw[Uu ⟨Q2z n,dec_len 4 n h2 (by decide),Qg4 n (by omega),h3⟩,Qmd]
theorem Qcv {d:Dyadic} (h:Q64 d):Qga (dyT d)=some (some d):=by
 unfold Qga;rcases Qg7 d with rfl|⟨neg,v,e,ho,rfl⟩
 ·rw[show form (dyT 0)=some (false,0,0) from by decide];simp only;rw[show dy (sgn false 0) 0=0 from rfl,Uu ((Q1j _).2 h)]
 ·obtain ⟨h1,h2,h3⟩:=(Q93 (neg:=neg) ho).1 h;rw[Qck ho,Qhv neg v e h2 h3 (Ue h1 Qcl) (fun h=>by omega)];simp only;rw[Uu ((Q1j _).2 h)]
theorem Qb0 (n:Nat):(dec n).count 32=0:=by
 rw[List.count_eq_zero];intro h;have:=Q4m n 32 h;exact absurd this.1 (by decide)
theorem Qko (d:Dyadic):(dyT d).count 32=0:=by
 cases d with
 |zero=>decide
 |ofOdd n k h=>
  show (Q21 _ _ _).count 32=0
  unfold Q21 Q9y;have h1:=Qb0 n.natAbs;obtain ⟨e,he⟩:∃e,-k=e:=⟨_,rfl⟩;rw[he];have h2:=Qb0 e.natAbs;have h3:(if e<0 then 45::dec e.natAbs else dec e.natAbs).count 32=0:=by split <;> simp[h2]
  have h4:(if e=0 then [] else 112::(if e<0 then 45::dec e.natAbs else dec e.natAbs)).count 32=0:=by
   split
   ·rfl
   ·rw[Xan,h3];rfl
  rw[Tz,Tz,h1,h4]
  split <;> rfl
theorem Q59 {s:LU} {f i p:Nat} {st st':PrS} {w t u:LU} (h:At s p (Q22 w t++u)) (hw:w.count 10=0) (ht:t.count 10=0) (hl:Q4v i p (w++32::t) st=some st'):
 Qey s (f+1) i p st=Qey s f (i+1) (p+(w.length+t.length+2)) st'/\At s (p+(w.length+t.length+2)) u:=by
 have h1:Q22 w t++u=(w++32::t)++10::u:=by simp[Q22]
 have h2:=h;rw[h1] at h2;have h3:=Qmm h2 (by rw[Tz,Xan,hw,ht];rfl);have h4:=h.cut;have h5:(Q22 w t).length=w.length+t.length+2:=by simp[Q22];omega
 rw[h5] at h4;refine ⟨?_,h4⟩;rw[Qey,h3];simp only[hl];rw[show p+(w++32::t).length+1=p+(w.length+t.length+2) by simp;omega]
theorem Qr7 {x y:Dyadic} (hx:Q64 x) (hy:Q64 y):Qex (Qh9++32::(dyT x++32::dyT y))=some (some x,some y):=by
 unfold Qex;rw[Q58,TF,Qgc 32 _ _ (Qko x)];simp only[Qcv hx,Qcv hy]
theorem Qkp {i p:Nat} {r:LU} {st:PrS} (hi:6<=i):Q4v i p (120::r) st=none:=by
 have h1:Qex (120::r)=none:=by
  unfold Qex Q5p;rw[Us (by simp[Qh9])];rfl
 unfold Q4v
 match i,hi with
 |6,_=>simp only[h1];split <;> rfl
 |n+7,_=>simp only[h1];split <;> rfl
theorem Qez {s:LU} {P:List Q0l} {F:List (List Q0l)}:∀(B:List (Dyadic × Dyadic)) (f i p:Nat) (st:PrS),(∀b∈B,Q64 b.1/\Q64 b.2)->At s p (Q7l B++Q0u 0 (P::F))->6<=i->B.length+1<=f->st.box.length+B.length<=4->st.over=none->6<i+B.length->
 ∃p',Qey s f i p st=.ok (p',{ st with box:=st.box++B.map fun b=>(some b.1,some b.2) })/\At s p' (Q0u 0 (P::F))
 |[],f,i,p,st,_,h,hi,hf,_,ho,hl=>by
  obtain ⟨g,rfl⟩:∃g,f=g+1:=⟨f-1,by simp at hf;omega⟩;have h1:Q7l []++Q0u 0 (P::F)=(Q3f 0++Q4u P)++10::Q0u 1 F:=by simp[Q7l,Q0u,Q5o]
  have h2:=h;rw[h1] at h2;have h3:=Qmm h2 (by rw[Q3f,Tz,Xan,Tz,Qml,Q43];rfl);refine ⟨p,?_,h⟩;rw[Qey,h3];have h4:Q4v i p (Q3f 0++Q4u P) st=none:=Qkp (r:=(dec 1++[39,32,61,32])++Q4u P) hi;simp only[h4];rw[Uu (by simp at hl;omega)];simp
 |b::B,f,i,p,st,hb,h,hi,hf,hk,ho,hl=>by
  obtain ⟨g,rfl⟩:∃g,f=g+1:=⟨f-1,by simp at hf;omega⟩;have A0:=hb b (by simp);have x6:Q4v i p (Qh9++32::(dyT b.1++32::dyT b.2)) st=some { st with box:=st.box++[(some b.1,some b.2)] }:=by
   have h1:=Qr7 A0.1 A0.2;have h2:st.box.length<4:=(by simp at hk;omega);unfold Q4v
   match i,hi with
   |6,_=>simp only[h1,Uu h2,ho,UE,Q5q]
   |n+7,_=>simp only[h1,Uu h2,ho,UE,Q5q]
  rw[Q7l,UN] at h;obtain ⟨h1,h2⟩:=Q59 (f:=g) h (by decide) (by rw[Tz,Xan,Q9b,Q9b];rfl) x6;obtain ⟨p',h3,h4⟩:=Qez B g (i+1) _ { st with box:=st.box++[(some b.1,some b.2)] } (fun x hx=>hb x (by simp[hx])) h2 (by omega) (by simp at hf;omega) (by simp at hk⊢;omega) ho (by simp at hl;omega);refine ⟨p',?_,h4⟩;rw[h1,h3];simp
theorem Q7m (w t:LU):2<=(Q22 w t).length:=by simp[Q22];omega
theorem Qmn:∀B:List (Dyadic × Dyadic),B.length<=(Q7l B).length
 |[]=>Uf _
 |b::r=>by
  have h1:=Q7m Qh9 (dyT b.1++32::dyT b.2);have h2:=Qmn r;rw[Q7l,Uh,Um];omega
theorem Qr8 {p:Qa8} (h:Qgb p):Qo5 (Qcu p)=.ok p:=by
 obtain ⟨s,hs⟩:∃s,Qcu p=s:=⟨_,rfl⟩;have h0:At s 0 (Qcu p):=by rw[<-hs];rfl
 have K0:p.box.length+8<=s.length:=by
  rw[<-hs,Qcu];have h1:=Q7m Qbd (dec p.prec);have h2:=Q7m Q74 (dec p.order);have h3:=Q7m Q4n (dec p.budget);have h4:=Q7m Q75 (dyT p.til);have h5:=Qmn p.box;simp only[Uh];omega
 rw[hs];obtain ⟨f,hf⟩:∃f,s.length+1=f+6:=⟨s.length-5,by omega⟩;unfold Qo5;rw[hf,PrS.empty];unfold Qcu at h0;have no:=Q43;have nd:=Q9b;obtain ⟨e1,a1⟩:=Q59 (f:=f+5) (i:=0) (st:=⟨0,0,0,some 0,some 0,some 0,[],none⟩) h0 (by decide) (no _) (st':=⟨p.prec,0,0,some 0,some 0,some 0,[],none⟩) (by
  simp only[Q4v,Q58,TF,Qa9 (n:=p.prec) (by have:=h.prec;omega) (by have:=h.prec;omega)];rfl)
 obtain ⟨e2,a2⟩:=Q59 (f:=f+4) (i:=1) (st:=⟨p.prec,0,0,some 0,some 0,some 0,[],none⟩) a1 (by decide) (no _) (st':=⟨p.prec,p.order,0,some 0,some 0,some 0,[],none⟩) (by
  simp only[Q4v,Q58,TF,Qa9 (n:=p.order) (by have:=h.order;omega) (by have:=h.order;omega)];rfl)
 obtain ⟨e3,a3⟩:=Q59 (f:=f+3) (i:=2) (st:=⟨p.prec,p.order,0,some 0,some 0,some 0,[],none⟩) a2 (by decide) (no _) (st':=⟨p.prec,p.order,p.budget,some 0,some 0,some 0,[],none⟩) (by
  simp only[Q4v,Q58,TF,Qa9 (n:=p.budget) (by have:=h.budget;omega) (by have:=h.budget;omega)];rfl)
 obtain ⟨e4,a4⟩:=Q59 (f:=f+2) (i:=3) (st:=⟨p.prec,p.order,p.budget,some 0,some 0,some 0,[],none⟩) a3 (by decide) (nd _) (st':=⟨p.prec,p.order,p.budget,some p.til,some 0,some 0,[],none⟩) (by
  simp only[Q4v,Q58,TF,Qcv h.til.1];rfl)
 obtain ⟨e5,a5⟩:=Q59 (f:=f+1) (i:=4) (st:=⟨p.prec,p.order,p.budget,some p.til,some 0,some 0,[],none⟩) a4 (by decide) (nd _) (st':=⟨p.prec,p.order,p.budget,some p.til,some p.most,some 0,[],none⟩) (by
  simp only[Q4v,Q58,TF,Qcv h.most.1];rfl)
 obtain ⟨e6,a6⟩:=Q59 (f:=f) (i:=5) (st:=⟨p.prec,p.order,p.budget,some p.til,some p.most,some 0,[],none⟩) a5 (by decide) (nd _) (st':=⟨p.prec,p.order,p.budget,some p.til,some p.most,some p.least,[],none⟩) (by
  simp only[Q4v,Q58,TF,Qcv h.least.1];rfl)
 obtain ⟨M1,QD,Jn⟩:=h.field;have C4:=h.same;cases hF:p.field with
 |nil=>rw[hF] at M1;simp at M1
 |cons P F=>
  rw[hF] at a6;obtain ⟨p',e7,a7⟩:=Qez (P:=P) (F:=F) p.box f 6 _ ⟨p.prec,p.order,p.budget,some p.til,some p.most,some p.least,[],none⟩ (fun b hb=>⟨(h.box b hb).1,(h.box b hb).2.1⟩) a6 (Uf _) (by omega) (by simp;omega) rfl (by omega);rw[e1,e2,e3,e4,e5,e6,e7];have ZL:Q99 (s.drop p')=.ok p.field:=by
   rw[show s.drop p'=Q0u 0 (P::F) from a7,<-hF];exact Qo4 h.field
  simp only[ZL,PrS.prob];refine congrArg Except.ok ?_;cases p;simp only[TC,Xbs,Xaw,Qa8.mk.injEq,and_true,true_and];exact List.map_id'' (fun b=>rfl) _
theorem Qup:∀v:Nat,v≠0->∃z u,u%2=1/\v=u*2^z:=by
 intro v
 induction v using Nat.strongRecOn with
 |ind v ih=>
  intro h
  by_cases ho:v%2=1
  ·exact ⟨0,v,ho,by simp⟩
  ·obtain ⟨z,u,hu,he⟩:=ih (v / 2) (by omega) (by omega);exact ⟨z+1,u,hu,by rw[Tg,<-UM,<-he];omega⟩
theorem Q5a (n e:Int):Q20 (dy n e)=decide (n<0):=by
 by_cases h0:n=0
 ·subst h0;rfl
 obtain ⟨z,u,hu,he⟩:=Qup n.natAbs (by omega);have hn:n=sgn (decide (n<0)) n.natAbs:=by
  unfold sgn
  by_cases h:n<0
  ·rw[Uu (by simpa using h)];omega
  ·rw[Us (by simpa using h)];omega
 have h1:dy n e=dy (sgn (decide (n<0)) u) (e+z):=by
  rw[Qcc,Q3k,<-he,<-hn]
 rw[h1,Q7x hu]
theorem Q6b (n m e:Int):Q20 (dy n e-dy m e)=decide (n<m):=by
 have h1:dy n e-dy m e=dy (n-m) e:=by
  rw[show n-m=n+ -m by omega,<-Qm8,<-Qcb]
  grind
 rw[h1,Q5a]
 by_cases h:n<m
 ·rw[UT h,UT (by omega)]
 ·rw[UX h,UX (by omega)]
def Q3v (r:Int) (x y:Dyadic):Prop:=(r<0↔Q20 (x-y)=true)/\(0<r↔Q20 (y-x)=true)
theorem Q9c {r n m e f:Int} {k:Nat} (h:e=f+k):Q3v r (dy n e) (dy m f)↔(r<0↔n*2^k<m)/\(0<r↔m<n*2^k):=by
 unfold Q3v;subst h;rw[Qcc,Q6b,Q6b,TG,TG]
theorem Q9d {r n m e f:Int} {k:Nat} (h:f=e+k):Q3v r (dy n e) (dy m f)↔(r<0↔n<m*2^k)/\(0<r↔m*2^k<n):=by
 unfold Q3v;subst h;rw[Qcc,Q6b,Q6b,TG,TG]
theorem Q7n {neg:Bool} {v:Nat} (h:v≠0) (k:Nat):(sgn neg v*2^k<0↔neg=true)/\(0<sgn neg v*2^k↔neg=false):=by
 rw[Q3k];have hp:0<v*2^k:=Nat.mul_pos (by omega) (Nat.two_pow_pos k);generalize v*2^k=x at*;unfold sgn;cases neg <;> simp <;> omega
def Qaa (neg:Bool) (v:Nat):Int:=if v=0 then 0 else if neg=true then -1 else 1
theorem Qf0 {na nb:Bool} {va vb:Nat} {ea eb r:Int} (h:Qaa na va≠Qaa nb vb∨Qaa na va=0) (hr:(r<0↔Qaa na va<Qaa nb vb)/\(0<r↔Qaa nb vb<Qaa na va)):Q3v r (dy (sgn na va) ea) (dy (sgn nb vb) eb):=by
 have hz:∀(n:Bool) (k:Nat),sgn n 0*2^k=0:=fun n k=>by rw[Q4b];simp
 have E2:∀(n:Bool),sgn n 0=0:=Q4b;rcases Int.le_total eb ea with B5|B5
 ·obtain ⟨k,hk⟩:∃k:Nat,ea=eb+k:=⟨(ea-eb).toNat,by omega⟩;rw[Q9c hk]
  by_cases ha:va=0 <;> by_cases hb:vb=0
  ·subst ha hb;rw[hz,E2];simp[Qaa] at hr⊢;exact hr
  ·subst ha;have h2:=Q7n (neg:=nb) hb 0;rw[Int.pow_zero,Int.mul_one] at h2;rw[hz];cases nb <;> simp[Qaa,hb] at hr h2⊢<;> omega
  ·subst hb;have h1:=Q7n (neg:=na) ha k;rw[E2];cases na <;> simp[Qaa,ha] at hr h1⊢<;> omega
  ·have h1:=Q7n (neg:=na) ha k;have h2:=Q7n (neg:=nb) hb 0;rw[Int.pow_zero,Int.mul_one] at h2;generalize sgn na va*2^k=x at*;generalize sgn nb vb=y at*;cases na <;> cases nb <;> simp[Qaa,ha,hb] at h hr h1 h2⊢<;> omega
 ·obtain ⟨k,hk⟩:∃k:Nat,eb=ea+k:=⟨(eb-ea).toNat,by omega⟩;rw[Q9d hk]
  by_cases ha:va=0 <;> by_cases hb:vb=0
  ·subst ha hb;rw[hz,E2];simp[Qaa] at hr⊢;exact hr
  ·subst ha;have h2:=Q7n (neg:=nb) hb k;rw[E2];cases nb <;> simp[Qaa,hb] at hr h2⊢<;> omega
  ·subst hb;have h1:=Q7n (neg:=na) ha 0;rw[Int.pow_zero,Int.mul_one] at h1;rw[hz];cases na <;> simp[Qaa,ha] at hr h1⊢<;> omega
  ·have h1:=Q7n (neg:=na) ha 0;have h2:=Q7n (neg:=nb) hb k;rw[Int.pow_zero,Int.mul_one] at h1;generalize sgn nb vb*2^k=x at*;generalize sgn na va=y at*;cases na <;> cases nb <;> simp[Qaa,ha,hb] at h hr h1 h2⊢<;> omega
theorem Qr9 {na:Bool} {va vb:Nat} {ea eb r s:Int} (hr:Q3v r (dy (va:Int) ea) (dy (vb:Int) eb)) (hs:s=Qaa na 1*r):Q3v s (dy (sgn na va) ea) (dy (sgn na vb) eb):=by
 rcases Int.le_total eb ea with B5|B5
 ·obtain ⟨k,hk⟩:∃k:Nat,ea=eb+k:=⟨(ea-eb).toNat,by omega⟩;rw[Q9c hk] at hr⊢;rw[Q3k];have hc:(va:Int)*2^k=((va*2^k:Nat):Int):=by simp
  rw[hc] at hr;generalize va*2^k=x at*;subst hs;cases na <;> simp[Qaa,sgn] at hr⊢<;> omega
 ·obtain ⟨k,hk⟩:∃k:Nat,eb=ea+k:=⟨(eb-ea).toNat,by omega⟩;rw[Q9d hk] at hr⊢;rw[Q3k];have hc:(vb:Int)*2^k=((vb*2^k:Nat):Int):=by simp
  rw[hc] at hr;generalize vb*2^k=x at*;subst hs;cases na <;> simp[Qaa,sgn] at hr⊢<;> omega
def Q76 (v k:Nat):Prop:=v<2^k/\(v≠0->2^(k-1)<=v/\1<=k)
theorem Qo6 {va vb p q:Nat} {ea eb r:Int} (hp:Q76 va p) (hq:Q76 vb q) (ha:va≠0) (hb:vb≠0) (P0:(p:Int)+ea≠q+eb) (hr:(r<0↔(p:Int)+ea<q+eb)/\(0<r↔(q:Int)+eb<p+ea)):Q3v r (dy (va:Int) ea) (dy (vb:Int) eb):=by
 obtain ⟨K8,Qr⟩:=hp;obtain ⟨i6,J5⟩:=hq;have VQ:=Qr ha;have ZV:=J5 hb;have key:∀{u v m n k:Nat},u<2^m->2^(n-1)<=v->1<=n->m+k<n->u*2^k<v:=fun {u v m n k} h1 h2 h3 h4=>by
  have h5:u*2^k<2^m*2^k:=TW h1 (Nat.two_pow_pos k);rw[<-Tw] at h5;have h6:2^(m+k)<=2^(n-1):=UL (by decide) (by omega);omega
 have key2:∀{u v m n k:Nat},u<2^m->2^(n-1)<=v->1<=n->m<n+k->u<v*2^k:=fun {u v m n k} h1 h2 h3 h4=>by
  have h5:2^(n-1)*2^k<=v*2^k:=UY _ h2;rw[<-Tw] at h5;have h6:2^m<=2^(n-1+k):=UL (by decide) (by omega);omega
 rcases Int.le_total eb ea with B5|B5
 ·obtain ⟨k,hk⟩:∃k:Nat,ea=eb+k:=⟨(ea-eb).toNat,by omega⟩;rw[Q9c hk];have hc:(va:Int)*2^k=((va*2^k:Nat):Int):=by simp
  rw[hc];rcases Nat.lt_or_ge (p+k) q with h|h
  ·have:=key K8 ZV.1 ZV.2 h;omega
  ·have:=key2 (k:=k) i6 VQ.1 VQ.2 (by omega);omega
 ·obtain ⟨k,hk⟩:∃k:Nat,eb=ea+k:=⟨(eb-ea).toNat,by omega⟩;rw[Q9d hk];have hc:(vb:Int)*2^k=((vb*2^k:Nat):Int):=by simp
  rw[hc];rcases Nat.lt_or_ge (q+k) p with h|h
  ·have:=key i6 VQ.1 VQ.2 h;omega
  ·have:=key2 (k:=k) K8 ZV.1 ZV.2 (by omega);omega
end Go.Proofs.YtidojbkhlenahaaGreatDoor
namespace Go.Proofs.YtidojbkhlenahaaGreatDoor
open Go.RowKit WordsM
theorem Qgd:∀f,Lib.bitLenAux f 0=0
 |0=>rfl
 |_+1=>rfl
theorem Q4c:∀f x,x<2^f->Q76 x (Lib.bitLenAux f x)
 |0,x,h=>by
  obtain rfl:x=0:=by simp at h;exact h
  exact ⟨by decide,fun h=>absurd rfl h⟩
 |f+1,x,h=>by
  rw[Lib.bitLenAux]
  split
  ·next h0=>subst h0;exact ⟨by decide,fun h=>absurd rfl h⟩
  ·next h0=>
   obtain ⟨h1,h2⟩:=Q4c f (x / 2) (by rw[Tg] at h;omega)
   by_cases hx:x / 2=0
   ·rw[hx,Qgd];exact ⟨by omega,fun _=>⟨by simp;omega,by omega⟩⟩
   ·obtain ⟨h3,h4⟩:=h2 hx;generalize Lib.bitLenAux f (x / 2)=L at*;obtain ⟨M,rfl⟩:∃M,L=M+1:=⟨L-1,by omega⟩;rw[Nat.add_sub_cancel] at h3;refine ⟨by rw[Tw];omega,fun _=>⟨?_,by omega⟩⟩;rw[show 1+(M+1)-1=M+1 by omega,Tg];omega
theorem Qo7 {ts:LN} {m x:Nat} (hl:Low (2^64) ts) (hm:ts.length=m+1) (hx:ts[m]?=some x) (h0:x≠0):Q76 (val (2^64) ts) (64*m+Lib.bitLen x):=by
 have N4:x<2^64:=hl x (Ug hx);obtain ⟨h1,h2⟩:=Q4c 64 x N4;obtain ⟨h3,h4⟩:=h2 h0;have hv:val (2^64) ts=val (2^64) (ts.take m)+(2^64)^m*x:=by
  have e:ts=ts.take m++[x]:=by
   have h5:=(Xbf m ts).symm;rw[UB (by omega),(Ui.1 hx).2,Tc (by omega)] at h5;exact h5
  have h7:=Q8x (B:=2^64) (ts.take m) x;rw[<-e,UW,Xa0 (by omega)] at h7;exact h7
 have g7:=Q2y (B:=2^64) (by decide) (ts.take m) (fun y hy=>hl y (Ts hy));rw[UW,Xa0 (by omega)] at g7;have hp:(2^64)^m=2^(64*m):=(Xab 2 64 m).symm;rw[hp] at hv g7
 show Q76 _ (64*m+Lib.bitLenAux 64 x)
 generalize Lib.bitLenAux 64 x=L at*;obtain ⟨M,rfl⟩:∃M,L=M+1:=⟨L-1,by omega⟩;rw[Nat.add_sub_cancel] at h3;generalize val (2^64) (ts.take m)=u at*;rw[hv];have h8:2^(64*m)*2^M<=2^(64*m)*x:=Xal _ h3;have h9:2^(64*m)*(x+1)<=2^(64*m)*2^(M+1):=Xal _ h1;rw[<-Tw] at h8 h9;rw[Nat.mul_succ] at h9;exact ⟨by omega,fun _=>⟨by rw[show 64*m+(M+1)-1=64*m+M by omega];omega,by omega⟩⟩
theorem Qi5 (a:OA) (n c:Nat) (ls:LN) (w:World) (h:WordsIn w a n c ls) (hn:n<=1000000):
 Calls Tryz.prog 145 #[.slice a n c] w fun e w'=>(∃k:Nat,e=.returned (.int .i64 (k:Int))/\Q76 (val (2^64) ls) k/\k<=64*n)/\Bw w w':=by
 have hc:=Q19 a n c ls w h;have HC:=Ua hc;have ht:=h.trim;have hv:val (2^64) (trimL ls)=val (2^64) ls:=Q17 ls;have XT:=Qc6 ls;have S5:=trim_len ls;have Q2:=h.len;obtain ⟨ts,Xm⟩:∃ts,trimL ls=ts:=⟨_,rfl⟩;rw[Xm] at hv XT S5 ht HC;have HT:=Xh3 ht hv XT;clear hc ht hv XT Xm h
 by_cases h0:ts.length=0
 ·have Qj:=UH.1 h0;subst Qj
  go_enter Tryz.func145,Tryz.ntmps145
  go_wp2_with (refine HC.out.mono ?_;rintro e w1 ⟨rfl,A0⟩;have O0:=Ua A0;clear A0)
  go_ret;exact ⟨⟨0,rfl,by rw[<-(Xo1 HT)];exact ⟨by decide,fun h=>absurd rfl h⟩,Ut _⟩,O0.out⟩
 ·obtain ⟨m,hm⟩:∃m,ts.length=m+1:=⟨ts.length-1,by omega⟩;obtain ⟨x,hx⟩:∃x,ts[m]?=some x:=⟨_,Ub (by omega)⟩;have O4:x≠0:=(Xe2 HT) x (by rw[List.getLast?_eq_getElem?,hm];exact hx);have N4:x<2^64:=(Xo0 HT).low x (Ug hx);have N4:x<18446744073709551616:=N4;have K0:=fun W=>Tryz.J15 (x:Int) W (by omega) (by omega);have V5:1<=Lib.bitLen x:=Nat.pos_of_ne_zero fun e=>O4 ((Qc7 x).1 e);have C7:Lib.bitLen x<=64:=Q4g 64 x;have N0:=Qo7 (Xo0 HT).low hm hx O4;rw[(Xo1 HT)] at N0;rw[Xar] at K0;generalize Lib.bitLen x=L at K0 V5 C7 N0;have HLN:=Xh2 K0 N0;rw[hm] at HC;clear K0 N0 h0
  go_enter Tryz.func145,Tryz.ntmps145
  go_wp2_with (first
   |(refine HC.out.mono ?_;rintro e w1 ⟨rfl,A0⟩;(obtain ⟨b,o,rfl,A6,G1⟩:=((Xo0 HT).step A0).rd.at_ hx);have O0:=Ua A0;clear A0)
   |(refine ((Xo0 HLN) _).mono ?_;rintro e w2 ⟨rfl,rfl⟩))
  go_ret;exact ⟨⟨64*m+L,rfl,(Xe1 HLN),by omega⟩,O0.out⟩
end Go.Proofs.YtidojbkhlenahaaGreatDoor
namespace Go.Proofs.YtidojbkhlenahaaGreatDoor
namespace Div64M
theorem Qra {D y1 y0 u r q:Nat} (h:q*y1+r=u):q*(y1*D+y0)+D*r=u*D+q*y0:=by
 subst h;rw[TE,Tl,<-UM,UA D r];omega
theorem quot_low {D y u d:Nat} (hu:u<y) (hd:d<D):(u*D+d) / y<D:=by
 refine TZ ?_;have h:(u+1)*D<=y*D:=UY D hu;rw[Tl,Nat.one_mul] at h;omega
theorem out_cond {D y1 y0 u d q r:Nat} (hy:0<y1*D+y0) (Z3:q*y1+r=u) (ZZ:(u*D+d) / (y1*D+y0)<=q) (hc:q*y0<=D*r+d):q=(u*D+d) / (y1*D+y0):=by
 refine Nat.le_antisymm ?_ ZZ;rw[Nat.le_div_iff_mul_le hy];have:=Qra (D:=D) (y0:=y0) Z3;omega
theorem too_great {D y1 y0 u d q r:Nat} (hu:u<y1*D+y0) (hd:d<D) (Z3:q*y1+r=u) (hc:D<=q∨D*r+d<q*y0):(u*D+d) / (y1*D+y0)+1<=q:=by
 rcases hc with hc|hc
 ·exact Ue (quot_low hu hd) hc
 ·refine TZ ?_;have:=Qra (D:=D) (y0:=y0) Z3;rw[UA (y1*D+y0) q,UA u D] at*;omega
theorem out_step {D y1 y0 u d q r:Nat} (hy:0<y1*D+y0) (h0:y0<D) (Z3:q*y1+r=u) (ZZ:(u*D+d) / (y1*D+y0)<=q) (hq:q<=D) (hr:D<=r):q=(u*D+d) / (y1*D+y0):=by
 refine out_cond hy Z3 ZZ ?_;have h1:q*y0<=D*y0:=UY y0 hq;have h2:D*y0<=D*r:=Xal D (by omega);omega
theorem guess_le {D y1 y0 u:Nat} (hu:u<y1*D+y0) (h0:y0<D) (h1:D<=2*y1):u / y1<=D+1:=by
 have hp:0<y1:=by omega
 refine Nat.le_of_lt_succ (TZ ?_);have:y1*(D+1+1)=y1*D+y1+y1:=by rw[TE,TE,Xbm]
 show u<y1*(D+1+1)
 omega
theorem guess_ge {D y1 y0 u d:Nat} (h1:0<y1) (hd:d<D):(u*D+d) / (y1*D+y0)<=u / y1:=by
 rw[Nat.le_div_iff_mul_le h1];have hy:0<y1*D+y0:=by
  have:=Nat.mul_pos h1 (show 0<D by omega);omega
 obtain ⟨t,ht⟩:∃t,(u*D+d) / (y1*D+y0)=t:=⟨_,rfl⟩;have h2:t*(y1*D+y0)<=u*D+d:=by rw[<-ht];exact Nat.div_mul_le_self _ _
 rw[ht];have h3:t*(y1*D+y0)=t*y1*D+t*y0:=by rw[TE,UM]
 have h4:t*y1*D<(u+1)*D:=by rw[Tl,Nat.one_mul];omega
 exact Nat.le_of_lt_succ (Nat.lt_of_mul_lt_mul_right h4)
theorem halves {D y hi l1 l0:Nat} (hy:0<y):
 (hi*(D*D)+(l1*D+l0)) / y=(hi*D+l1) / y*D+((hi*D+l1)%y*D+l0) / y/\(hi*(D*D)+(l1*D+l0))%y=((hi*D+l1)%y*D+l0)%y:=by
 have e:hi*(D*D)+(l1*D+l0)=y*((hi*D+l1) / y*D)+((hi*D+l1)%y*D+l0):=by
  have h:=TY (hi*D+l1) y;have h2:(hi*D+l1)*D=(y*((hi*D+l1) / y)+(hi*D+l1)%y)*D:=by rw[h]
  rw[Tl,Tl,UM,UM] at h2;omega
 rw[e];exact ⟨by rw[Nat.mul_add_div hy],Nat.mul_add_mod _ _ _⟩
end Div64M
open Go.RowKit WordsM
theorem Q9e:∀(f x:Nat),0<f->2^(f-1)<=x->Lib.bitLenAux f x=f
 |0,x,h,_=>absurd h (by omega)
 |f+1,x,_,hx=>by
  rw[Lib.bitLenAux];have hp:0<2^f:=Tv (by decide);rw[Nat.add_sub_cancel] at hx;rw[Us (by omega)];cases f with
  |zero=>simp[Lib.bitLenAux]
  |succ f=>
   rw[Q9e (f+1) (x / 2) (by omega) (by rw[Nat.add_sub_cancel,Nat.le_div_iff_mul_le (by decide),<-Tg];exact hx)];omega
theorem Qrb (hi lo y:Nat) (w:World) (hh:hi<y) (Z4:lo<18446744073709551616) (hy:9223372036854775808<=y) (M9:y<18446744073709551616):
 Calls Tryz.prog 213 #[.int .u64 (hi:Int),.int .u64 (lo:Int),.int .u64 (y:Int)] w fun e w'=>
  e=.returned (.tuple #[.int .u64 (((hi*18446744073709551616+lo) / y:Nat):Int),.int .u64 (((hi*18446744073709551616+lo)%y:Nat):Int)])/\Bw w w':=by
 have V5:Lib.bitLen y=64:=Q9e 64 y (by decide) hy;have hlz:=fun W=>Tryz.J0o (y:Int) W (by omega) (by omega);rw[Xar,V5] at hlz;have hlz2:=fun W=>(hlz W).mono (R':=fun e w'=>e=.returned (.int .i64 (64-((64:Nat):Int)))/\W=w') (by rintro e w' ⟨h1,h2⟩;exact ⟨h1,h2.symm⟩);have HLZ:=Ua hlz2;clear hlz hlz2 V5
 by_cases h0:hi=0
 ·subst h0;rw[Xaq,UV];obtain ⟨q,hq⟩:∃q,lo / y=q:=⟨_,rfl⟩;obtain ⟨r,hr⟩:∃r,lo%y=r:=⟨_,rfl⟩;have Vo:q<18446744073709551616:=by rw[<-hq];exact TQ (Xbn _ _) Z4
  have hqI:(lo:Int) / (y:Int)=(q:Int):=by rw[<-hq];norm_cast
  have hrI:(lo:Int)%(y:Int)=(r:Int):=by rw[<-hr];norm_cast
  rw[hq,hr]
  go_enter Tryz.func213,Tryz.ntmps213
  go_wp2_with fail
  go_quiet (fail)
  go_wp2_with fail
  refine ⟨rfl,.tuple #[.int .u64 (q:Int),.int .u64 (r:Int)],by simp[results,go_sem,hrI],rfl,⟨rfl,rfl,rfl,Uf _,fun _ _=>rfl⟩⟩
 ·have Yw:((hi:Int)==0)=false:=by rw[Uj];omega
  obtain ⟨y1,hy1d⟩:∃z,y / 4294967296=z:=⟨_,rfl⟩;obtain ⟨y0,hy0d⟩:∃z,y%4294967296=z:=⟨_,rfl⟩;obtain ⟨l1,hl1d⟩:∃z,lo / 4294967296=z:=⟨_,rfl⟩;obtain ⟨l0,hl0d⟩:∃z,lo%4294967296=z:=⟨_,rfl⟩;have hyy:y=y1*4294967296+y0:=by omega
  have hl_l1:l1<4294967296:=by omega
  have hl_l0:l0<4294967296:=by omega
  obtain ⟨t1,I3⟩:∃z,(hi*4294967296+l1) / y=z:=⟨_,rfl⟩;obtain ⟨u2,Qu⟩:∃z,(hi*4294967296+l1)%y=z:=⟨_,rfl⟩;obtain ⟨t0,Xc⟩:∃z,(u2*4294967296+l0) / y=z:=⟨_,rfl⟩;obtain ⟨rr,Jn⟩:∃z,(u2*4294967296+l0)%y=z:=⟨_,rfl⟩;have VK:=Div64M.halves (D:=4294967296) (y:=y) (hi:=hi) (l1:=l1) (l0:=l0) (by omega);rw[show 4294967296*4294967296=18446744073709551616 from rfl,show l1*4294967296+l0=lo by omega,I3,Qu,Xc,Jn] at VK;rw[VK.1,VK.2];have ht1l:t1<4294967296:=by rw[<-I3];exact Div64M.quot_low hh hl_l1
  have hu2l:u2<y:=by rw[<-Qu];exact TP _ (by omega)
  have ht0l:t0<4294967296:=by rw[<-Xc];exact Div64M.quot_low hu2l hl_l0
  have C6:=TY (hi*4294967296+l1) y;have V8:=TY (u2*4294967296+l0) y;rw[I3,Qu,UA y] at C6;rw[Xc,Jn,UA y] at V8;have hrrl:rr<y:=by rw[<-Jn];exact TP _ (by omega)
  obtain ⟨T1,hT1⟩:∃z,t1*y=z:=⟨_,rfl⟩;obtain ⟨T0,W7⟩:∃z,t0*y=z:=⟨_,rfl⟩;have hT1I:(t1:Int)*(y:Int)=(T1:Int):=by rw[<-hT1];norm_cast
  have hT0I:(t0:Int)*(y:Int)=(T0:Int):=by rw[<-W7];norm_cast
  rw[hT1] at C6;rw[W7] at V8;have JB:(lo:Int) / 18446744073709551616=0:=by omega
  have hy1I:(y:Int) / 4294967296=(y1:Int):=by omega
  have hl1I:(lo:Int) / 4294967296=(l1:Int):=by omega
  have Y6:bits .or .u64 (hi:Int) 0=(hi:Int):=by have:=bits_or_u64_nat hi 0 (by omega) (by decide);simpa using this
  have p5:∀z:Nat,z<18446744073709551616->bits .and .u64 (z:Int) 4294967295=((z%4294967296:Nat):Int):=fun z hz=>by
   have h1:=bits_and_u64_nat z 4294967295 hz (by decide);rw[show (4294967295:Nat)=2^32-1 from rfl,Nat.and_two_pow_sub_one_eq_mod] at h1;exact h1
  have hy0I:bits .and .u64 (y:Int) 4294967295=(y0:Int):=by rw[p5 y M9,hy0d]
  have hl0I:bits .and .u64 (lo:Int) 4294967295=(l0:Int):=by rw[p5 lo Z4,hl0d]
  clear p5;have Jd:=Ua hyy;have Xr:IntKind.u64.wrap (IntKind.u64.wrap (IntKind.u64.wrap ((hi:Int)*4294967296)+(l1:Int))-IntKind.u64.wrap (T1:Int))=(u2:Int):=by
   simp only[IntKind.wrap,IntKind.signed,IntKind.bits,Bool.false_and,Tf,Xag];omega
  have hU0:IntKind.u64.wrap (IntKind.u64.wrap (IntKind.u64.wrap ((u2:Int)*4294967296)+(l0:Int))-IntKind.u64.wrap (T0:Int))=(rr:Int):=by
   simp only[IntKind.wrap,IntKind.signed,IntKind.bits,Bool.false_and,Tf,Xag];omega
  have HU:=Ua hh;have hyb:2147483648<=y1/\y1<4294967296/\y0<4294967296:=by omega
  have HYP:=Ua (show 0<y1*4294967296+y0 by omega);clear hyy hy1d hy0d hl1d hl0d VK C6 V8;obtain ⟨qg,QR⟩:∃q,hi / y1=q:=⟨_,rfl⟩;have hqI:(hi:Int).tdiv (y1:Int)=(qg:Int):=by rw[<-QR,<-Int.ofNat_tdiv]
  obtain ⟨Pg,WK⟩:∃P,qg*y1=P:=⟨_,rfl⟩;have hPgI:(qg:Int)*(y1:Int)=(Pg:Int):=by rw[<-WK];norm_cast
  obtain ⟨rg,Vk⟩:∃r,hi%y1=r:=⟨_,rfl⟩;have Va:=TY hi y1;rw[QR,Vk,UA,WK] at Va;have WH:rg<4294967296:=by have:=TP hi (show 0<y1 by omega);omega
  have hrI:(hi:Int)-(Pg:Int)=(rg:Int):=by omega
  have Z3:qg*y1+rg=hi:=by rw[WK];exact Va
  have Vv:qg<=4294967296+1:=by rw[<-QR];exact Div64M.guess_le (D:=4294967296) (y0:=y0) (by rw[<-Jd.out];exact HU.out) (by omega) (by omega)
  have ZZ:t1<=qg:=by rw[<-QR,<-I3,Jd.out];exact Div64M.guess_ge (by omega) hl_l1
  go_enter Tryz.func213,Tryz.ntmps213
  go_upto_block 0 with (refine (HLZ.out _).mono ?_;rintro e w1 ⟨rfl,rfl⟩)
  go_cut [15] (fun qv wx=>qv=.int .u64 (t1:Int)/\w=wx)
  case first=>
   go_wp2_with fail
   go_loopw [15,16] (fun qv rv wr=>∃(q r:Nat),qv=.int .u64 (q:Int)/\rv=.int .u64 (r:Int)/\q*y1+r=hi/\t1<=q/\q<=4294967296+1/\r<4294967296/\wr=w) (fun qv _ _=>(intOf qv).toNat)
   case atStart=>exact ⟨qg,rg,rfl,rfl,Z3,ZZ,Vv,WH,rfl⟩
   case round=>
    clear Z3 ZZ Vv WH;obtain ⟨q,r,rfl,rfl,Z3,ZZ,Vv,WH,rfl⟩:=hrel;obtain ⟨P,hP⟩:∃P,q*y0=P:=⟨_,rfl⟩;have Yk:(q:Int)*(y0:Int)=(P:Int):=(by rw[<-hP];norm_cast);have Jp:q<4294967296->P<18446744073709551616:=fun h=>by
     have:q*y0<=4294967296*y0:=UY y0 (by omega);omega
    have hrge:(0:Int)<=(r:Int):=Int.natCast_nonneg _;have hrlt:(r:Int)<4294967296:=(by omega);have HCC:4294967296<=q∨¬4294967296<=q:=by omega
    by_cases hc:4294967296<=q∨4294967296*r+l1<P
    ·have htg:=Div64M.too_great (D:=4294967296) (d:=l1) (y0:=y0) (q:=q) (r:=r) (u:=hi) (y1:=y1) (by rw[<-Jd.out];exact HU.out) hl_l1 Z3 (by rw[hP];exact hc);rw[<-Jd.out,I3] at htg;obtain ⟨p,hp⟩:∃p,q=p+1:=⟨q-1,by omega⟩;have JF:p*y1+(r+y1)=hi:=(by rw[<-Z3,hp,Tl];omega);have hpI:(q:Int)-1=(p:Int):=(by omega);have i6:(1:Int)<=(q:Int):=(by omega);have hgp:t1<=p:=(by omega);have Xb:p<=4294967296:=(by omega);have hpq:p<q:=(by omega);have ZC:=Ua JF;have W6:(4294967296<=q)∨(¬4294967296<=q/\4294967296*r+l1<P):=(by omega);have HCS:=Ua W6;clear hc hp htg Z3 JF W6 HCC
     by_cases X0:4294967296<=r+y1
     ·have XF:=Div64M.out_step (D:=4294967296) (y1:=y1) (y0:=y0) (u:=hi) (d:=l1) (q:=p) (r:=r+y1) HYP.out (by omega) ZC.out (by rw[<-Jd.out,I3];omega) (by omega) X0;rw[<-Jd.out,I3] at XF;have Yp:(4294967296:Int)<=(r:Int)+(y1:Int):=(by omega);have HOT:=Ua XF;clear X0 XF;rcases HCS.out with hc|⟨Js,hc⟩
      ·have R6:(4294967296:Int)<=(q:Int):=(by omega);clear hc Jp
       go_wp2_with fail
       go_meet;exact ⟨by rw[HOT.out],rfl⟩
      ·have KH:=Jp (by omega);have hcI:4294967296*(r:Int)+(l1:Int)<(P:Int):=(by omega);have hc3I:¬(4294967296:Int)<=(q:Int):=(by omega);clear hc Js Jp
       go_wp2_with fail
       go_meet;exact ⟨by rw[HOT.out],rfl⟩
     ·have Yp:¬(4294967296:Int)<=(r:Int)+(y1:Int):=(by omega);have HR2:=Ua X0;clear X0;rcases HCS.out with hc|⟨Js,hc⟩
      ·have R6:(4294967296:Int)<=(q:Int):=(by omega);clear hc Jp
       go_wp2_with fail
       exact ⟨⟨p,r+y1,rfl,by simp,ZC.out,hgp,by omega,by have:=HR2.out;omega,trivial⟩,by simp only[intOf];omega⟩
      ·have KH:=Jp (by omega);have hcI:4294967296*(r:Int)+(l1:Int)<(P:Int):=(by omega);have hc3I:¬(4294967296:Int)<=(q:Int):=(by omega);clear hc Js Jp
       go_wp2_with fail
       exact ⟨⟨p,r+y1,rfl,by simp,ZC.out,hgp,by omega,by have:=HR2.out;omega,trivial⟩,by simp only[intOf];omega⟩
    ·have XF:=Div64M.out_cond (D:=4294967296) (y1:=y1) (y0:=y0) (u:=hi) (d:=l1) (q:=q) (r:=r) HYP.out Z3 (by rw[<-Jd.out,I3];exact ZZ) (by rw[hP];omega);rw[<-Jd.out,I3] at XF;subst XF;have KH:=Jp (by omega);have C2:¬((4294967296:Int)<=(q:Int)):=(by omega);have A2:¬(4294967296*(r:Int)+(l1:Int)<(P:Int)):=(by omega);clear hc
     go_wp2_with fail
     go_meet;exact ⟨rfl,rfl⟩
  case rest=>
   obtain ⟨rfl,rfl⟩:=hcut;clear Z3 ZZ Vv WH hqI hPgI hrI WK Vk QR Va HU;have HU:=Ua hu2l;obtain ⟨qg,QR⟩:∃q,u2 / y1=q:=⟨_,rfl⟩;have hqI:(u2:Int).tdiv (y1:Int)=(qg:Int):=(by rw[<-QR,<-Int.ofNat_tdiv]);obtain ⟨Pg,WK⟩:∃P,qg*y1=P:=⟨_,rfl⟩;have hPgI:(qg:Int)*(y1:Int)=(Pg:Int):=(by rw[<-WK];norm_cast);obtain ⟨rg,Vk⟩:∃r,u2%y1=r:=⟨_,rfl⟩;have Va:=TY u2 y1;rw[QR,Vk,UA,WK] at Va;have WH:rg<4294967296:=(by have:=TP u2 (show 0<y1 by omega);omega);have hrI:(u2:Int)-(Pg:Int)=(rg:Int):=(by omega);have Z3:qg*y1+rg=u2:=(by rw[WK];exact Va);have Vv:qg<=4294967296+1:=(by rw[<-QR];exact Div64M.guess_le (D:=4294967296) (y0:=y0) (by rw[<-Jd.out];exact HU.out) (by omega) (by omega));have ZZ:t0<=qg:=by rw[<-QR,<-Xc,Jd.out];exact Div64M.guess_ge (by omega) hl_l0
   go_upto_block 2 with fail
   go_cut [18] (fun qv wx=>qv=.int .u64 (t0:Int)/\w=wx)
   case first=>
    go_wp2_with fail
    go_loopw [18,16] (fun qv rv wr=>∃(q r:Nat),qv=.int .u64 (q:Int)/\rv=.int .u64 (r:Int)/\q*y1+r=u2/\t0<=q/\q<=4294967296+1/\r<4294967296/\wr=w) (fun qv _ _=>(intOf qv).toNat)
    case atStart=>exact ⟨qg,rg,rfl,rfl,Z3,ZZ,Vv,WH,rfl⟩
    case round=>
     clear Z3 ZZ Vv WH;obtain ⟨q,r,rfl,rfl,Z3,ZZ,Vv,WH,rfl⟩:=hrel;obtain ⟨P,hP⟩:∃P,q*y0=P:=⟨_,rfl⟩;have Yk:(q:Int)*(y0:Int)=(P:Int):=(by rw[<-hP];norm_cast);have Jp:q<4294967296->P<18446744073709551616:=fun h=>by
      have:q*y0<=4294967296*y0:=UY y0 (by omega);omega
     have hrge:(0:Int)<=(r:Int):=Int.natCast_nonneg _;have hrlt:(r:Int)<4294967296:=(by omega);have HCC:4294967296<=q∨¬4294967296<=q:=by omega
     by_cases hc:4294967296<=q∨4294967296*r+l0<P
     ·have htg:=Div64M.too_great (D:=4294967296) (d:=l0) (y0:=y0) (q:=q) (r:=r) (u:=u2) (y1:=y1) (by rw[<-Jd.out];exact HU.out) hl_l0 Z3 (by rw[hP];exact hc);rw[<-Jd.out,Xc] at htg;obtain ⟨p,hp⟩:∃p,q=p+1:=⟨q-1,by omega⟩;have JF:p*y1+(r+y1)=u2:=(by rw[<-Z3,hp,Tl];omega);have hpI:(q:Int)-1=(p:Int):=(by omega);have i6:(1:Int)<=(q:Int):=(by omega);have hgp:t0<=p:=(by omega);have Xb:p<=4294967296:=(by omega);have hpq:p<q:=(by omega);have ZC:=Ua JF;have W6:(4294967296<=q)∨(¬4294967296<=q/\4294967296*r+l0<P):=(by omega);have HCS:=Ua W6;clear hc hp htg Z3 JF W6 HCC
      by_cases X0:4294967296<=r+y1
      ·have XF:=Div64M.out_step (D:=4294967296) (y1:=y1) (y0:=y0) (u:=u2) (d:=l0) (q:=p) (r:=r+y1) HYP.out (by omega) ZC.out (by rw[<-Jd.out,Xc];omega) (by omega) X0;rw[<-Jd.out,Xc] at XF;have Yp:(4294967296:Int)<=(r:Int)+(y1:Int):=(by omega);have HOT:=Ua XF;clear X0 XF;rcases HCS.out with hc|⟨Js,hc⟩
       ·have R6:(4294967296:Int)<=(q:Int):=(by omega);clear hc Jp
        go_wp2_with fail
        go_meet;exact ⟨by rw[HOT.out],rfl⟩
       ·have KH:=Jp (by omega);have hcI:4294967296*(r:Int)+(l0:Int)<(P:Int):=(by omega);have hc3I:¬(4294967296:Int)<=(q:Int):=(by omega);clear hc Js Jp
        go_wp2_with fail
        go_meet;exact ⟨by rw[HOT.out],rfl⟩
      ·have Yp:¬(4294967296:Int)<=(r:Int)+(y1:Int):=(by omega);have HR2:=Ua X0;clear X0;rcases HCS.out with hc|⟨Js,hc⟩
       ·have R6:(4294967296:Int)<=(q:Int):=(by omega);clear hc Jp
        go_wp2_with fail
        exact ⟨⟨p,r+y1,rfl,by simp,ZC.out,hgp,by omega,by have:=HR2.out;omega,trivial⟩,by simp only[intOf];omega⟩
       ·have KH:=Jp (by omega);have hcI:4294967296*(r:Int)+(l0:Int)<(P:Int):=(by omega);have hc3I:¬(4294967296:Int)<=(q:Int):=(by omega);clear hc Js Jp
        go_wp2_with fail
        exact ⟨⟨p,r+y1,rfl,by simp,ZC.out,hgp,by omega,by have:=HR2.out;omega,trivial⟩,by simp only[intOf];omega⟩
     ·have XF:=Div64M.out_cond (D:=4294967296) (y1:=y1) (y0:=y0) (u:=u2) (d:=l0) (q:=q) (r:=r) HYP.out Z3 (by rw[<-Jd.out,Xc];exact ZZ) (by rw[hP];omega);rw[<-Jd.out,Xc] at XF;subst XF;have KH:=Jp (by omega);have C2:¬((4294967296:Int)<=(q:Int)):=(by omega);have A2:¬(4294967296*(r:Int)+(l0:Int)<(P:Int)):=(by omega);clear hc
      go_wp2_with fail
      go_meet;exact ⟨rfl,rfl⟩
   case rest=>
    obtain ⟨rfl,rfl⟩:=hcut
    go_wp2_with fail
    refine ⟨rfl,.tuple #[.int .u64 ((t1*4294967296+t0:Nat):Int),.int .u64 (rr:Int)],by simp[results,go_sem],rfl,Uc _ _⟩
end Go.Proofs.YtidojbkhlenahaaGreatDoor
