/- Part 12 of the proof of LawParseMeans: ShowM, ShowM2, ShowM3, Mono. Condition: as each theorem says; none at the end. -/
import Derived.Test.YtdilmfakkppgpaaGreatDoorPkParseMeans11
set_option maxRecDepth 100000
set_option maxHeartbeats 16000000
namespace Go.Proofs.YtdilmfakkppgpaaGreatDoor
open Go.RowKit WordsM DecM
def Qfc (i:Nat) (k:Int):List (List UInt8):=
 if k=1 then [120::dec (i+1)] else if 1<k then [120::(dec (i+1)++94::dec k.toNat)] else []
def Q2j:Nat->List Int->List (List UInt8)
 |_,[]=>[]
 |i,k::r=>Qfc i k++Q2j (i+1) r
def Q2y:Dyadic->Bool
 | .zero=>false
 | .ofOdd n _ _=>decide (n<0)
def Qa3 (d:Dyadic):Dyadic:=if Q2y d=true then -d else d
def dyT:Dyadic->List UInt8
 | .zero=>[48]
 | .ofOdd n k _=>Q2i (decide (n<0)) n.natAbs (-k)
def Q48:List (List UInt8)->List UInt8
 |[]=>[]
 |[x]=>x
 |x::y::r=>x++42::Q48 (y::r)
def Q3p (p:Q0b):List (List UInt8):=
 if Q2j 0 p.2=[]∨Qa3 p.1≠1 then dyT (Qa3 p.1)::Q2j 0 p.2 else Q2j 0 p.2
def Q11 (p:Q0b):List UInt8:=Q48 (Q3p p)
def Q2n (first:Bool) (p:Q0b):List UInt8:=
 if first=true then (if Q2y p.1=true then [45] else []) else (if Q2y p.1=true then [32,45,32] else [32,43,32])
def Q0g:Bool->List Q0b->List UInt8
 |_,[]=>[]
 |first,p::r=>Q2n first p++(Q11 p++Q0g false r)
def Q15 (P:List Q0b):List UInt8:=if P=[] then [48] else Q0g true P
def Q5i (i:Nat) (P:List Q0b):List UInt8:=Q2l i++(Q15 P++[10])
def Q1n:Nat->List (List Q0b)->List UInt8
 |_,[]=>[]
 |i,P::r=>Q5i i P++Q1n (i+1) r
theorem Q8u {neg:Bool} {v:Nat} {e:Int} (ho:v%2=1):Q2y (dy (sgn neg v) e)=neg:=by
 rw[Qaq (Q3t ho)]
 cases neg
 ·simp[Q2y,sgn]
 ·simp[Q2y,sgn];omega
theorem Qie {neg:Bool} {v:Nat} {e:Int} (ho:v%2=1):dyT (dy (sgn neg v) e)=Q2i neg v e:=by
 have h:=Q8u (neg:=neg) (e:=e) ho
 rw[Qaq (Q3t ho)] at h⊢
 simp only[Q2y] at h
 simp only[dyT,h,Q72,Int.neg_neg]
theorem Qdu {neg:Bool} {v:Nat} {e:Int} (ho:v%2=1):Qa3 (dy (sgn neg v) e)=dy (sgn false v) e:=by
 unfold Qa3
 rw[Q8u ho]
 cases neg
 ·rfl
 ·rw[if_pos rfl,Qex];congr 1;simp[sgn]
theorem Qif (d:Dyadic):d=0∨∃(neg:Bool) (v:Nat) (e:Int),v%2=1/\d=dy (sgn neg v) e:=by
 cases d with
 |zero=>exact .inl rfl
 |ofOdd n k h=>
  refine .inr ⟨decide (n<0),n.natAbs,-k,by omega,?_⟩
  have hs:sgn (decide (n<0)) n.natAbs=n:=by
   unfold sgn
   by_cases hn:n<0
   ·rw[if_pos (by simpa using hn)];omega
   ·rw[if_neg (by simpa using hn)];omega
  rw[hs,Qaq h,Int.neg_neg]
theorem Qfd {d:Dyadic}:(if Q2y d=true then -(Qa3 d) else Qa3 d)=d:=by
 unfold Qa3
 split
 ·grind
 ·rfl
def At (s:List UInt8) (p:Nat) (t:List UInt8):Prop:=s.drop p=t
theorem At.byte {s:List UInt8} {p:Nat} {c:UInt8} {t:List UInt8} (h:At s p (c::t)):Q09 s p=c/\At s (p+1) t:=by
 unfold At at*
 have hp:p<s.length:=by
  refine Nat.lt_of_not_le fun hle=>?_
  rw[List.drop_of_length_le hle] at h;cases h
 rw[List.drop_eq_getElem_cons hp] at h
 injection h with h1 h2
 refine ⟨?_,h2⟩
 unfold Q09
 rw[List.getD_eq_getElem?_getD,List.getElem?_eq_getElem hp]
 exact h1
theorem At.end_ {s:List UInt8} {p:Nat} (h:At s p []):Q09 s p=0:=by
 unfold At at h
 have hp:s.length<=p:=List.drop_eq_nil_iff.1 h
 unfold Q09
 rw[List.getD_eq_getElem?_getD,List.getElem?_eq_none hp];rfl
theorem At.app {s:List UInt8} {p:Nat} {t u:List UInt8} (h:At s p (t++u)):At s (p+t.length) u:=by
 unfold At at*
 rw[<-List.drop_drop,h,List.drop_left]
theorem At.len {s:List UInt8} {p:Nat} {t:List UInt8} (h:At s p t) (hp:p<=s.length):s.length=p+t.length:=by
 unfold At at h
 have:=congrArg List.length h
 rw[List.length_drop] at this
 omega
theorem At.fixed {s:List UInt8}:∀{t:List UInt8} {p:Nat} {u:List UInt8},At s p (t++u)->Q29 s t p=.ok (p+t.length)
 |[],p,u,_=>rfl
 |c::t,p,u,h=>by
  obtain ⟨h1,h2⟩:=At.byte (t:=t++u) h
  rw[Q29,if_pos h1,At.fixed h2]
  simp only[List.length_cons]
  congr 1;omega
theorem At.skip0 {s:List UInt8} {p:Nat} {c:UInt8} {t:List UInt8} (h:At s p (c::t)) (hc:c≠32):Q07 s p=p:=Q6d (by rw[h.byte.1];exact hc)
theorem At.word {s:List UInt8} {p:Nat} {t u:List UInt8} (h:At s p (t++u)) (ha:Qhk t) (hu:digN u=0):Q1h s p=p+t.length:=by
 unfold Q1h At at*
 rw[h,Qdo t u ha,hu,Nat.add_zero]
def Qk3 (u:List UInt8):Prop:=digN u=0/\∀c r,u=c::r->c≠112
theorem Qrn (e:Int) {u:List UInt8} (hu:Qk3 u):digN (Q9p e++u)=0:=by
 unfold Q9p
 split
 ·exact hu.1
 ·show digN (112::_)=0
  rw[digN,if_neg];decide
theorem Qlv {s:List UInt8} {p:Nat} {v:Nat} {e:Int} {u:List UInt8} (h:At s p (Q2i false v e++u)) (hu:Qk3 u):Q9r s p=p+(Q2i false v e).length:=by
 have ht:Q2i false v e=dec v++Q9p e:=rfl
 rw[ht,List.append_assoc] at h
 rw[ht]
 have hw:=h.word (Q57 v) (Qrn e hu)
 have h2:=h.app
 unfold Q9r
 rw[hw]
 unfold Q9p at h2⊢
 by_cases h0:e=0
 ·rw[if_pos h0] at h2⊢
  rw[List.nil_append] at h2
  have hne:Q09 s (p+(dec v).length)≠112:=by
   cases u with
   |nil=>rw[h2.end_];decide
   |cons c r=>rw[h2.byte.1];exact hu.2 c r rfl
  rw[if_neg hne,List.append_nil]
 ·rw[if_neg h0] at h2⊢
  obtain ⟨h3,h4⟩:=At.byte (t:=(if e<0 then 45::dec e.natAbs else dec e.natAbs)++u) h2
  rw[if_pos h3]
  by_cases hneg:e<0
  ·rw[if_pos hneg] at h4⊢
   obtain ⟨h5,h6⟩:=At.byte (t:=dec e.natAbs++u) h4
   rw[if_pos h5,h6.word (Q57 _) hu.1]
   simp only[List.length_append,List.length_cons];omega
  ·rw[if_neg hneg] at h4⊢
   have hd:=Q3s e.natAbs
   have h5:Q09 s (p+(dec v).length+1)≠45:=by
    cases hc:dec e.natAbs with
    |nil=>rw[hc] at hd;simp at hd
    |cons c r=>
     rw[hc] at h4
     have h6:=(At.byte (t:=r++u) h4).1
     rw[h6]
     have:=Q57 e.natAbs c (by rw[hc];simp)
     rintro rfl
     exact absurd this (by decide)
   rw[if_neg h5,h4.word (Q57 _) hu.1]
   simp only[List.length_append,List.length_cons];omega
theorem Qro (c a b j:Nat) (h:a*b<=j) (hc:0<c):(c^a)^b<=c^j:=by
 rw[<-Nat.pow_mul];exact Nat.pow_le_pow_right hc h
theorem Qfe:(2^64)^64<=10^1300:=by
 have h1:((2:Nat)^64)^64=((2^64)^2)^32:=by rw[<-Nat.pow_mul (2^64) 2 32]
 rw[h1]
 exact Nat.le_trans (Nat.pow_le_pow_left (show ((2:Nat)^64)^2<=10^40 by decide) 32) (Qro 10 40 32 1300 (by decide) (by decide))
theorem Qay (v:Nat) (e:Int):∃c r,Q2i false v e=c::r/\48<=c.toNat/\c.toNat<=57:=by
 have hd:=Q3s v
 cases hc:dec v with
 |nil=>rw[hc] at hd;simp at hd
 |cons c r=>
  refine ⟨c,r++Q9p e,?_,Q57 v c (by rw[hc];simp)⟩
  show dec v++Q9p e=_
  rw[hc];rfl
theorem Qox {s:List UInt8} {p:Nat} {v:Nat} {e:Int} {u:List UInt8} (h:At s p (Q2i false v e++u)) (hu:Qk3 u) (h1: -65536<=e) (h2:e<=65536) (hv:v<(2^64)^64) (h0:v=0->e=0) (hf:Q63 (dy (sgn false v) e)):
 Qid s p=.ok (.num (some (dy (sgn false v) e)),p+(Q2i false v e).length):=by
 have hn:=Qlv h hu
 unfold Qid
 rw[hn,Nat.add_sub_cancel_left]
 have ht:(s.drop p).take (Q2i false v e).length=Q2i false v e:=by
  unfold At at h;rw[h,List.take_left]
 rw[ht,Qob false v e h1 h2 (Nat.lt_of_lt_of_le hv Qfe) (fun h=>⟨rfl,h0 h⟩)]
 simp only
 rw[if_pos ((Q1g _).2 hf)]
def nb (u:List UInt8):UInt8:=(u.drop (Q3f u)).headD 0
theorem At.nb {s:List UInt8} {q:Nat} {u:List UInt8} (h:At s q u):Q09 s (Q07 s q)=nb u:=by
 unfold At at h
 unfold Q07
 rw[h]
 have h2:At s (q+Q3f u) (u.drop (Q3f u)):=by unfold At;rw[<-List.drop_drop,h]
 unfold Go.Proofs.YtdilmfakkppgpaaGreatDoor.nb
 cases hc:u.drop (Q3f u) with
 |nil=>rw[hc] at h2;exact h2.end_
 |cons c r=>rw[hc] at h2;exact h2.byte.1
theorem At.skip {s:List UInt8} {q:Nat} {u:List UInt8} (h:At s q u):Q07 s q=q+Q3f u:=by
 unfold At at h
 unfold Q07
 rw[h]
def Qk4 (u:List UInt8):Prop:=Qk3 u/\nb u≠94
def FR (most:Nat) (t:List UInt8) (x:Ex):Prop:=(∃c r,t=c::r/\c≠32)/\∀(s:List UInt8) (sub:Nat->PR Ex) (opens:Bool) (p:Nat) (u:List UInt8),At s (Q07 s p) (t++u)->Qk4 u->∃q,Q1r sub opens s most p=.ok (x,q)/\Q07 s q=Q07 s (Q07 s p+t.length)
theorem Qoy (most:Nat) {v:Nat} {e:Int} (h1: -65536<=e) (h2:e<=65536) (hv:v<(2^64)^64) (h0:v=0->e=0) (hf:Q63 (dy (sgn false v) e)):FR most (Q2i false v e) (.num (some (dy (sgn false v) e))):=by
 refine ⟨?_,fun s sub opens p u h hu=>?_⟩
 ·obtain ⟨c,r,hc,hc1,_⟩:=Qay v e
  exact ⟨c,r,hc,fun e=>by rw[e] at hc1;exact absurd hc1 (by decide)⟩
 ·obtain ⟨c,r,hc,hc1,hc2⟩:=Qay v e
  have hb:Q09 s (Q07 s p)=c:=by
   have h':=h
   rw[hc] at h'
   exact (At.byte (t:=r++u) h').1
  have hn:=Qox h hu.1 h1 h2 hv h0 hf
  have ha:Q09 s (Q07 s (Q07 s p+(Q2i false v e).length))=nb u:=(At.app h).nb
  refine ⟨Q07 s (Q07 s p+(Q2i false v e).length),?_,Q7u _ _⟩
  unfold Q1r Q4u
  rw[hb,if_pos ⟨hc1,hc2⟩,hn]
  simp only
  rw[if_neg (by rw[ha];exact hu.2)]
theorem Q5y {i:Nat} (h:i<10):dec i=[UInt8.ofNat (48+i)]:=Q1z h
theorem Q7x {i:Nat} (h:i<10):(UInt8.ofNat (48+i)).toNat=48+i:=Q5d i h
theorem Qk5 {most i:Nat} (hi:i<9) (hm:i+1<=most) (s:List UInt8) (sub:Nat->PR Ex) (opens:Bool) (p:Nat) (u:List UInt8) (h:At s (Q07 s p) (120::(dec (i+1)++u))):Q4u sub opens s most p=.ok (.var i,Q07 s p+2):=by
 obtain ⟨h1,h2⟩:=h.byte
 rw[Q5y (by omega)] at h2
 obtain ⟨h3,h4⟩:=At.byte (t:=u) h2
 unfold Q4u
 rw[h1,if_neg (by decide),if_pos rfl,h3,Q7x (by omega),if_pos (by omega)]
 congr 2
 congr 1
 omega
theorem Qvc {most i:Nat} (hi:i<9) (hm:i+1<=most):FR most (120::dec (i+1)) (.var i):=by
 refine ⟨⟨_,_,rfl,by decide⟩,fun s sub opens p u h hu=>?_⟩
 have hb:=Qk5 hi hm s sub opens p u h
 have hl:(120::dec (i+1)).length=2:=by rw[Q5y (by omega)];rfl
 have ha:Q09 s (Q07 s (Q07 s p+(120::dec (i+1)).length))=nb u:=(At.app (t:=120::dec (i+1)) h).nb
 rw[hl] at ha⊢
 refine ⟨Q07 s (Q07 s p+2),?_,Q7u _ _⟩
 unfold Q1r
 rw[hb]
 simp only
 rw[if_neg (by rw[ha];exact hu.2)]
theorem Qvd {most i k:Nat} (hi:i<9) (hm:i+1<=most) (hk:k<=8):FR most (120::(dec (i+1)++94::dec k)) (.pow (.var i) k):=by
 refine ⟨⟨_,_,rfl,by decide⟩,fun s sub opens p u h hu=>?_⟩
 have h':At s (Q07 s p) (120::(dec (i+1)++(94::(dec k++u)))):=by simpa using h
 have hb:=Qk5 hi hm s sub opens p _ h'
 have hl:(120::dec (i+1)).length=2:=by rw[Q5y (by omega)];rfl
 have hlen:(120::(dec (i+1)++94::dec k)).length=4:=by rw[Q5y (by omega),Q5y (i:=k) (by omega)];rfl
 have h2:At s (Q07 s p+2) (94::(dec k++u)):=by
  have:=At.app (t:=120::dec (i+1)) (u:=94::(dec k++u)) h'
  rwa[hl] at this
 obtain ⟨h3,h4⟩:=h2.byte
 have hs2:=h2.skip0 (by decide)
 rw[Q5y (i:=k) (by omega)] at h4
 obtain ⟨h5,h6⟩:=At.byte (t:=u) h4
 have hs3:=At.skip0 (t:=u) h4 (fun e=>by have:=congrArg UInt8.toNat e;rw[Q7x (by omega)] at this;have h32:(32:UInt8).toNat=32:=rfl;omega)
 rw[hlen]
 refine ⟨Q07 s p+4,?_,rfl⟩
 unfold Q1r
 rw[hb]
 simp only
 rw[hs2,if_pos h3,hs3,h5,Q7x (by omega),if_pos (by omega)]
 congr 2
 congr 1
 omega
def FRs (most:Nat):List (List UInt8)->List Ex->Prop
 |[],[]=>True
 |t::ts,x::xs=>FR most t x/\FRs most ts xs
 |_,_=>False
theorem Qoz {most:Nat}:∀{ts us:List (List UInt8)} {xs ys:List Ex},FRs most ts xs->FRs most us ys->FRs most (ts++us) (xs++ys)
 |[],_,[],_,_,h=>h
 |_::_,_,_::_,_,h,h'=>⟨h.1,Qoz h.2 h'⟩
 |[],_,_::_,_,h,_=>h.elim
 |_::_,_,[],_,h,_=>h.elim
theorem Qrp (t:List UInt8):Qk4 (42::t):=⟨⟨by rw[digN,if_neg];decide,fun c r h=>by injection h with h1 _;rw[<-h1];decide⟩,by simp[nb,Q3f]⟩
theorem Q7y {most:Nat} {s:List UInt8} (sub:Nat->PR Ex) (opens:Bool) {u:List UInt8} (hu:Qk4 u) (hs:nb u≠42):∀(ts:List (List UInt8)) (xs:List Ex) (f p:Nat) (acc:List Ex),ts≠[]->FRs most ts xs->ts.length<=f->At s (Q07 s p) (Q48 ts++u)->
 Q38 sub opens s most f p acc=.ok (.prod (acc++xs),Q07 s (Q07 s p+(Q48 ts).length))
 |[],_,_,_,_,h,_,_,_=>absurd rfl h
 |[t],[x],f+1,p,acc,_,hf,_,h=>by
  obtain ⟨q,h1,h2⟩:=hf.1.2 s sub opens p u h hu
  have ha:Q09 s (Q07 s (Q07 s p+t.length))=nb u:=(At.app (t:=t) h).nb
  unfold Q38
  rw[h1]
  simp only
  rw[h2,if_neg (by rw[ha];exact hs)]
  rfl
 |t::t'::ts,x::xs,f+1,p,acc,_,hf,hl,h=>by
  have h':At s (Q07 s p) (t++(42::(Q48 (t'::ts)++u))):=by simpa[Q48] using h
  obtain ⟨q,h1,h2⟩:=hf.1.2 s sub opens p _ h' (Qrp _)
  have h3:=At.app h'
  have h4:=h3.skip0 (by decide)
  obtain ⟨h5,h6⟩:=h3.byte
  have hne:Q48 (t'::ts)++u≠[]/\Q07 s (Q07 s p+t.length+1)=Q07 s p+t.length+1:=by
   obtain ⟨c,r,hc,hc32⟩:∃c r,Q48 (t'::ts)++u=c::r/\c≠32:=by
    have hf2:=hf.2
    cases xs with
    |nil=>exact hf2.elim
    |cons y ys=>
     obtain ⟨c,r,hc,hc32⟩:=hf2.1.1
     subst hc
     cases ts with
     |nil=>exact ⟨c,r++u,rfl,hc32⟩
     |cons a b=>exact ⟨c,_,rfl,hc32⟩
   rw[hc] at h6⊢
   exact ⟨by simp,h6.skip0 hc32⟩
  have ih:=Q7y sub opens hu hs (t'::ts) xs f (Q07 s p+t.length+1) (acc++[x]) (by simp) hf.2 (by simpa using hl) (by rw[hne.2];exact h6)
  unfold Q38
  rw[h1]
  simp only
  rw[h2,h4,if_pos h5,ih,hne.2]
  simp only[Q48,List.length_append,List.length_cons,List.append_assoc,List.singleton_append]
  congr 3;omega
 |[t],[],_,_,_,_,hf,_,_=>hf.elim
 |_::_::_,[],_,_,_,_,hf,_,_=>hf.elim
 |[t],_::_::_,_,_,_,_,hf,_,_=>hf.2.elim
 |_::_,_,0,_,_,_,_,hl,_=>by simp at hl
def Qt8 (i:Nat) (k:Int):List Ex:=if k=1 then [.var i] else if 1<k then [.pow (.var i) k.toNat] else []
def Qaz:Nat->List Int->List Ex
 |_,[]=>[]
 |i,k::r=>Qt8 i k++Qaz (i+1) r
def Qb0 (p:Q0b):List Ex:=if Q2j 0 p.2=[]∨Qa3 p.1≠1 then .num (some (Qa3 p.1))::Qaz 0 p.2 else Qaz 0 p.2
def Qlw (p:Q0b):Bool × Ex:=(Q2y p.1,.prod (Qb0 p))
def Q39 (P:List Q0b):Ex:=if P=[] then .sum [(false,.prod [.num (some 0)])] else .sum (P.map Qlw)
theorem Qdv {most:Nat}:∀(i:Nat) (E:List Int),i+E.length<=most->most<=9->(∀x∈E,0<=x/\x<=8)->FRs most (Q2j i E) (Qaz i E)
 |_,[],_,_,_=>trivial
 |i,k::r,h,hm,hk=>by
  have ih:=Qdv (i+1) r (by simp only[List.length_cons] at h;omega) hm (fun x hx=>hk x (by simp[hx]))
  have hk1:=hk k (by simp)
  refine Qoz ?_ ih
  simp only[List.length_cons] at h
  unfold Qfc Qt8
  split
  ·exact ⟨Qvc (by omega) (by omega),trivial⟩
  ·split
   ·exact ⟨Qvd (by omega) (by omega) (by omega),trivial⟩
   ·trivial
theorem Q6p:∀{E:List Int},(∀x∈E,0<=x)->0<=E.sum/\∀x∈E,x<=E.sum
 |[],_=>⟨by simp,fun x hx=>by cases hx⟩
 |a::E,h=>by
  obtain ⟨h1,h2⟩:=Q6p (E:=E) (fun x hx=>h x (by simp[hx]))
  have h3:=h a (by simp)
  rw[List.sum_cons]
  refine ⟨by omega,fun x hx=>?_⟩
  rcases List.mem_cons.1 hx with rfl|hx
  ·omega
  ·have:=h2 x hx;omega
theorem Q2a {n:Nat} {E:List Int} (h:Q0m n E):∀x∈E,0<=x/\x<=8:=fun x hx=>by
 have h1:=(Q6p h.2.1).2 x hx
 have h2:=h.2.1 x hx
 have h3:=h.2.2
 omega
theorem Qve (most:Nat) {d:Dyadic} (h0:d≠0) (hf:Q63 d):FR most (dyT (Qa3 d)) (.num (some (Qa3 d))):=by
 rcases Qif d with rfl|⟨neg,v,e,ho,rfl⟩
 ·exact absurd rfl h0
 ·rw[Qdu ho]
  rw[Qie ho]
  obtain ⟨h1,h2,h3⟩:=(Q6m (neg:=neg) ho).1 hf
  exact Qoy most h2 h3 h1 (fun h=>by omega) ((Q6m (neg:=false) ho).2 ⟨h1,h2,h3⟩)
theorem Qff {n most:Nat} {p:Q0b} (h0:p.1≠0) (h:Qcn n p) (hn:n<=most) (hm:most<=9):FRs most (Q3p p) (Qb0 p)/\Q3p p≠[]:=by
 have h1:=Qdv (most:=most) 0 p.2 (by rw[h.2.1];omega) hm (Q2a h.2)
 unfold Q3p Qb0
 split
 ·exact ⟨⟨Qve most h0 h.1,h1⟩,by simp⟩
 ·rename_i hc
  exact ⟨h1,fun e=>hc (.inl e)⟩
theorem Qp0 {most:Nat}:∀{ts:List (List UInt8)} {xs:List Ex},FRs most ts xs->ts.length<=(Q48 ts).length
 |[],_,_=>by simp
 |[t],[x],h=>by
  obtain ⟨c,r,hc,_⟩:=h.1.1
  simp only[Q48,hc,List.length_cons,List.length_nil];omega
 |t::t'::ts,x::xs,h=>by
  have ih:=Qp0 h.2
  simp only[Q48,List.length_append,List.length_cons] at ih⊢
  omega
 |[_],[],h=>h.elim
 |_::_::_,[],h=>h.elim
 |[_],_::_::_,h=>h.2.elim
def Qb1 (u:List UInt8):Prop:=Qk4 u/\nb u≠42
theorem Qfg {n most:Nat} {p0:Q0b} (h0:p0.1≠0) (h:Qcn n p0) (hn:n<=most) (hm:most<=9) {s:List UInt8} (sub:Nat->PR Ex) (opens:Bool) {u:List UInt8} (hu:Qb1 u) {p:Nat} (hp:p<=s.length) (ha:At s (Q07 s p) (Q11 p0++u)):
 Q38 sub opens s most (s.length+1) p []=.ok (.prod (Qb0 p0),Q07 s (Q07 s p+(Q11 p0).length)):=by
 obtain ⟨h1,h2⟩:=Qff h0 h hn hm
 have h3:=Qp0 h1
 have h4:=ha.len (Q2r hp)
 have h5:=Q7y sub opens hu.1 hu.2 (Q3p p0) (Qb0 p0) (s.length+1) p [] h2 h1 (by
  have h6:(Q11 p0++u).length=(Q48 (Q3p p0)).length+u.length:=by rw[List.length_append];rfl
  rw[h6] at h4
  omega) ha
 rw[List.nil_append] at h5
 exact h5
theorem Qrq (c:UInt8) (t:List UInt8) (hc:c≠32) (hc2:c≠94) (hc3:c≠42):Qb1 (32::c::t):=by
 have hn:nb (32::c::t)=c:=by simp[nb,Q3f,hc]
 refine ⟨⟨⟨by rw[digN,if_neg];decide,fun x r h=>by injection h with h1 _;rw[<-h1];decide⟩,by rw[hn];exact hc2⟩,by rw[hn];exact hc3⟩
theorem Qdw {n most:Nat} (hn:n<=most) (hm:most<=9) {s:List UInt8} (sub:Nat->PR Ex) (opens:Bool) {u:List UInt8} (hu:Qb1 u) (hu1:nb u≠43) (hu2:nb u≠45):
 ∀(r:List Q0b) (p0:Q0b) (f p:Nat) (below:Bool) (acc:List (Bool × Ex)),(∀q∈p0::r,q.1≠0/\Qcn n q)->r.length<f->p<=s.length->At s (Q07 s p) (Q11 p0++(Q0g false r++u))->
 Q7v sub opens s most f p below acc=.ok (.sum (acc++(below,.prod (Qb0 p0))::r.map Qlw),Q07 s (Q07 s p+(Q11 p0++Q0g false r).length))
 |[],p0,f+1,p,below,acc,hr,_,hp,ha=>by
  have ht:=Qfg (hr p0 (by simp)).1 (hr p0 (by simp)).2 hn hm sub opens hu hp ha
  have hb:Q09 s (Q07 s (Q07 s p+(Q11 p0).length))=nb u:=(At.app (t:=Q11 p0) ha).nb
  unfold Q7v
  rw[ht]
  simp only
  rw[Q7u,hb,if_neg hu1,if_neg hu2]
  simp[Q0g]
 |q::r,p0,f+1,p,below,acc,hr,hl,hp,ha=>by
  obtain ⟨c,hc,hcc,hc2⟩:∃c:UInt8,Q2n false q=[32,c,32]/\(c=43/\Q2y q.1=false∨c=45/\Q2y q.1=true)/\c≠32:=by
   unfold Q2n
   rw[if_neg (by decide)]
   cases hb:Q2y q.1
   ·exact ⟨43,by rw[if_neg (by decide)],.inl ⟨rfl,rfl⟩,by decide⟩
   ·exact ⟨45,by rw[if_pos rfl],.inr ⟨rfl,rfl⟩,by decide⟩
  have ha':At s (Q07 s p) (Q11 p0++(32::c::(32::(Q11 q++(Q0g false r++u))))):=by
   have e:Q0g false (q::r)++u=32::c::(32::(Q11 q++(Q0g false r++u))):=by
    rw[Q0g,hc];simp
   rw[<-e];exact ha
  have ht:=Qfg (hr p0 (by simp)).1 (hr p0 (by simp)).2 hn hm sub opens (Qrq c _ hc2 (by rcases hcc with ⟨rfl,_⟩|⟨rfl,_⟩ <;> decide) (by rcases hcc with ⟨rfl,_⟩|⟨rfl,_⟩ <;> decide)) hp ha'
  have h1:=At.app ha'
  obtain ⟨h2,h3⟩:=h1.byte
  have h4:Q07 s (Q07 s p+(Q11 p0).length)=Q07 s p+(Q11 p0).length+1:=by rw[Q35 h2];exact h3.skip0 hc2
  obtain ⟨h5,h6⟩:=h3.byte
  obtain ⟨h7,h8⟩:=h6.byte
  have hst:Q07 s (Q07 s p+(Q11 p0).length+1+1)=Q07 s p+(Q11 p0).length+1+1+1:=by
   rw[Q35 h7]
   obtain ⟨hf1,hf2⟩:=Qff (hr q (by simp)).1 (hr q (by simp)).2 hn hm
   obtain ⟨x,y,hx,hx32⟩:∃x y,Q11 q++(Q0g false r++u)=x::y/\x≠32:=by
    unfold Q11
    cases hpt:Q3p q with
    |nil=>exact absurd hpt hf2
    |cons t ts=>
     rw[hpt] at hf1
     cases hte:Qb0 q with
     |nil=>rw[hte] at hf1;exact hf1.elim
     |cons z zs=>
      rw[hte] at hf1
      obtain ⟨x,y,hx,hx32⟩:=hf1.1.1
      subst hx
      cases ts with
      |nil=>exact ⟨x,_,rfl,hx32⟩
      |cons a b=>exact ⟨x,_,rfl,hx32⟩
   rw[hx] at h8
   exact h8.skip0 hx32
  have hlen:=Q0i h5 (by rcases hcc with ⟨rfl,_⟩|⟨rfl,_⟩ <;> decide)
  have hl2:r.length<f:=by simp only[List.length_cons] at hl;omega
  have hple:Q07 s p+(Q11 p0).length+1+1<=s.length:=hlen
  have ih:=fun (b:Bool) (acc':List (Bool × Ex))=>Qdw hn hm sub opens hu hu1 hu2 r q f (Q07 s p+(Q11 p0).length+1+1) b acc' (fun x hx=>hr x (by simp only[List.mem_cons] at hx⊢;exact .inr hx)) hl2 hple (by rw[hst];exact h8)
  have hfin:Q07 s (Q07 s p+(Q11 p0).length+1+1+1+(Q11 q++Q0g false r).length)=Q07 s (Q07 s p+(Q11 p0++Q0g false (q::r)).length):=by
   congr 1
   simp only[Q0g,hc,List.length_append,List.length_cons,List.length_nil];omega
  unfold Q7v
  rw[ht]
  simp only
  rw[Q7u,h4,h5]
  rcases hcc with ⟨rfl,hb⟩|⟨rfl,hb⟩
  ·rw[if_pos rfl,ih,hst,hfin]
   simp[Qlw,hb]
  ·rw[if_neg (by decide),if_pos rfl,ih,hst,hfin]
   simp[Qlw,hb]
 |_,_,0,_,_,_,_,hl,_,_=>by simp at hl
theorem Qrr (t:List UInt8):Qb1 (10::t)/\nb (10::t)=10/\Q3f (10::t)=0:=by
 have hn:nb (10::t)=10:=by simp[nb,Q3f]
 exact ⟨⟨⟨⟨by rw[digN,if_neg];decide,fun x r h=>by injection h with h1 _;rw[<-h1];decide⟩,by rw[hn];decide⟩,by rw[hn];decide⟩,hn,by simp[Q3f]⟩
theorem Q6q {n most:Nat} {q:Q0b} (h0:q.1≠0) (h:Qcn n q) (hn:n<=most) (hm:most<=9):∃x y,Q11 q=x::y/\x≠32/\x≠45:=by
 unfold Q11 Q3p
 split
 ·rcases Qif q.1 with h1|⟨neg,v,e,ho,h1⟩
  ·exact absurd h1 h0
  ·rw[h1,Qdu ho,Qie ho]
   obtain ⟨c,r,hc,hc1,hc2⟩:=Qay v e
   rw[hc]
   have a1:c≠32:=fun e=>by rw[e] at hc1;exact absurd hc1 (by decide)
   have a2:c≠45:=fun e=>by rw[e] at hc1;exact absurd hc1 (by decide)
   cases Q2j 0 q.2 with
   |nil=>exact ⟨c,r,rfl,a1,a2⟩
   |cons t ts=>exact ⟨c,_,rfl,a1,a2⟩
 ·rename_i hc
  have h1:=Qdv (most:=most) 0 q.2 (by rw[h.2.1];omega) hm (Q2a h.2)
  have hx:∀(i:Nat) (E:List Int) t ts,Q2j i E=t::ts->∃r,t=120::r:=by
   intro i E
   induction E generalizing i with
   |nil=>intro t ts h;cases h
   |cons k r ih=>
    intro t ts h
    simp only[Q2j,Qfc] at h
    split at h
    ·injection h with h _;exact ⟨_,h.symm⟩
    ·split at h
     ·injection h with h _;exact ⟨_,h.symm⟩
     ·exact ih (i+1) t ts h
  cases hp:Q2j 0 q.2 with
  |nil=>exact absurd (.inl hp) hc
  |cons t ts=>
   obtain ⟨r,rfl⟩:=hx 0 q.2 t ts hp
   cases ts with
   |nil=>exact ⟨120,r,rfl,by decide,by decide⟩
   |cons a b=>exact ⟨120,_,rfl,by decide,by decide⟩
theorem Qp1 {n most:Nat} (hn:n<=most) (hm:most<=9) {s:List UInt8} (sub:Nat->PR Ex) (opens:Bool) {P:List Q0b} (hP:Q18 n P) {p0 p:Nat} (hs0:Q07 s p0=p) (hp:p<=s.length) {t:List UInt8} (h2:At s p (Q15 P++10::t)):
 Q4e sub opens s most p0=.ok (Q39 P,p+(Q15 P).length):=by
 obtain ⟨he1,he2,he3⟩:=Qrr t
 cases P with
 |nil=>
  have h2':At s p (Q2i false 0 0++10::t):=by
   have e:Q2i false 0 0=[48]:=by simp[Q2i,Q9p,Q1z]
   rw[e];exact h2
  have e:(Q2i false 0 0).length=1:=by simp[Q2i,Q9p,Q1z]
  have hfr:=Qoy most (v:=0) (e:=0) (by decide) (by decide) (by decide) (fun _=>rfl) (by exact Q7t)
  have h3:=Q7y sub opens he1.1 he1.2 [Q2i false 0 0] [.num (some 0)] (s.length+1) p [] (by simp) ⟨hfr,trivial⟩ (by simp) (by rw[h2.skip0 (by decide)];exact h2')
  rw[h2.skip0 (by decide)] at h3
  have h4:At s (p+1) (10::t):=by have:=At.app h2';rwa[e] at this
  have h5:=h4.skip0 (by decide)
  simp only[Q48,e,h5,List.nil_append] at h3
  unfold Q4e
  rw[hs0,h2.byte.1,if_neg (by decide),Q7v,h3]
  simp only
  rw[h5,h4.byte.1,if_neg (by decide),if_neg (by decide)]
  rfl
 |cons q r=>
  have hq:=hP.2.2 q (by simp)
  obtain ⟨x,y,hx,hx32,hx45⟩:=Q6q hq.1 hq.2 hn hm
  have hlen:=h2.len hp
  have hrl:r.length<s.length+1:=by
   have:∀(l:List Q0b),l.length<=(Q0g false l).length:=fun l=>by
    induction l with
    |nil=>simp
    |cons a l ih=>
     have:1<=(Q2n false a).length:=by unfold Q2n;rw[if_neg (by decide)];split <;> simp
     simp only[Q0g,List.length_append,List.length_cons];omega
   have h9:=this r
   simp only[Q15,Q0g,List.length_append,List.length_cons,reduceCtorEq,if_false] at hlen
   omega
  have hst:=fun (b:Bool) (f':Nat) (h:At s (Q07 s f') (Q11 q++(Q0g false r++10::t))) (hf:f'<=s.length)=>Qdw hn hm sub opens he1 (by rw[he2];decide) (by rw[he2];decide) r q (s.length+1) f' b [] hP.2.2 hrl hf h
  have hpt:Q15 (q::r)=Q2n true q++(Q11 q++Q0g false r):=by simp[Q15,Q0g]
  rw[hpt] at h2⊢
  have hlast:∀p',At s p' (Q11 q++(Q0g false r++10::t))->Q07 s (p'+(Q11 q++Q0g false r).length)=p'+(Q11 q++Q0g false r).length:=fun p' h=>by
   have h':At s p' ((Q11 q++Q0g false r)++10::t):=by rw[List.append_assoc];exact h
   exact (At.app h').skip0 (by decide)
  cases hbl:Q2y q.1
  ·have hsg:Q2n true q=[]:=by simp[Q2n,hbl]
   rw[hsg,List.nil_append] at h2
   rw[hsg,List.nil_append]
   have h2':At s p (Q11 q++(Q0g false r++10::t)):=by rw[<-List.append_assoc];exact h2
   have h3:At s p (x::(y++(Q0g false r++10::t))):=by rw[hx] at h2';exact h2'
   have hs1:=h3.skip0 hx32
   unfold Q4e
   rw[hs0,h3.byte.1,if_neg hx45,hst false p (by rw[hs1];exact h2') (by omega),hs1,hlast _ h2']
   simp[Q39,Qlw,hbl]
  ·have hsg:Q2n true q=[45]:=by simp[Q2n,hbl]
   rw[hsg] at h2⊢
   have h2'':At s p (45::(Q11 q++(Q0g false r++10::t))):=by simpa using h2
   obtain ⟨h6,h2'⟩:=h2''.byte
   have hlt:=Q0i h6 (by decide)
   have h3:At s (p+1) (x::(y++(Q0g false r++10::t))):=by rw[hx] at h2';exact h2'
   have hs1:=h3.skip0 hx32
   unfold Q4e
   rw[hs0,h6,if_pos rfl,hst true (p+1) (by rw[hs1];exact h2') (by omega),hs1,hlast _ h2']
   simp only[Q39,Qlw,hbl,List.nil_append,List.map_cons,reduceCtorEq,if_false,List.length_append,List.length_cons,List.length_nil]
   congr 2
   omega
theorem Qa4:Q63 1:=(Q1g 1).1 (by decide)
theorem Qp2:(1:Dyadic)≠0:=by decide
theorem Qu3 {c:Dyadic} {E:List Int} (h0:c≠0) (hf:Q63 c):Q1t [(c,E)]=.ok [(c,E)]:=by
 unfold Q1t
 have hg:Q17 [(c,E)]=[(c,E)]:=rfl
 rw[hg]
 simp[(Q1g c).2 hf,h0]
theorem Qlx (E:List Int):Q1t [(0,E)]=.ok []:=by
 unfold Q1t
 have hg:Q17 [((0:Dyadic),E)]=[(0,E)]:=rfl
 rw[hg]
 simp[(Q1g 0).2 Q7t]
theorem deg1 (c:Dyadic) (E:List Int) (h:0<=E.sum):Qlt [(c,E)]=E.sum:=by
 simp only[Qlt,List.foldl_cons,List.foldl_nil];omega
theorem mul1 {c d:Dyadic} {E F:List Int} (h0:c*d≠0) (hf:Q63 (c*d)) (hE:0<=E.sum) (hF:0<=F.sum) (hs:E.sum+F.sum<=8):Qau [(c,E)] [(d,F)]=.ok [(c*d,List.zipWith (·+·) E F)]:=by
 have hp:Q64 [(c,E)] [(d,F)]=[(c*d,List.zipWith (·+·) E F)]:=rfl
 unfold Qau
 rw[if_neg (by rw[deg1 c E hE,deg1 d F hF];omega),hp,if_neg (by simp[(Q1g _).2 hf]),Qu3 h0 hf]
def Q2p (n i:Nat) (k:Int):List Int:=(List.replicate n 0).set i k
theorem Qfh (n:Nat):(List.replicate n (0:Int)).sum=0:=by
 induction n with
 |zero=>rfl
 |succ n ih=>rw[List.replicate_succ,List.sum_cons,ih];rfl
theorem Q41:∀(n i:Nat) (k:Int),i<n->(Q2p n i k).sum=k
 |n+1,0,k,_=>by simp[Q2p,List.replicate_succ]
 |n+1,i+1,k,h=>by
  have:=Q41 n i k (by omega)
  unfold Q2p at*
  rw[List.replicate_succ,List.set_cons_succ,List.sum_cons,this];omega
theorem Qfi:∀(n i:Nat) (a b:Int),List.zipWith (·+·) (Q2p n i a) (Q2p n i b)=Q2p n i (a+b)
 |0,i,a,b=>by simp[Q2p]
 |n+1,0,a,b=>by
  simp only[Q2p,List.replicate_succ,List.set_cons_zero,List.zipWith_cons_cons]
  congr 1
  rw[List.zipWith_replicate];simp
 |n+1,i+1,a,b=>by
  have:=Qfi n i a b
  simp only[Q2p,List.replicate_succ,List.set_cons_succ,List.zipWith_cons_cons] at this⊢
  rw[this];rfl
theorem Qfj {n i:Nat} (hi:i<n):∀k:Nat,k+1<=8->Qhl [(1,Q2p n i 1)] k=.ok [(1,Q2p n i ((k:Int)+1))]
 |0,_=>rfl
 |k+1,h=>by
  rw[Qhl,Qfj hi k (by omega)]
  simp only
  have hm:=mul1 (c:=1) (d:=1) (E:=Q2p n i ((k:Int)+1)) (F:=Q2p n i 1) (by decide) (by have:=Qa4;rwa[Dyadic.mul_one]) (by rw[Q41 _ _ _ hi];omega) (by rw[Q41 _ _ _ hi];omega) (by rw[Q41 _ _ _ hi,Q41 _ _ _ hi];omega)
  rw[hm,Dyadic.mul_one,Qfi]
  simp
theorem Qk6 {n i:Nat}:Q1k n (.var i)=.ok [(1,Q2p n i 1)]:=by
 rw[Q1k];exact Qu3 Qp2 Qa4
theorem Qk7 {n i:Nat} (hi:i<n) {k:Int} (h1:1<=k) (h8:k<=8):∃x,Qt8 i k=[x]/\Q1k n x=.ok [(1,Q2p n i k)]:=by
 unfold Qt8
 split
 ·rename_i h;subst h;exact ⟨_,rfl,Qk6⟩
 ·rw[if_pos (by omega)]
  refine ⟨_,rfl,?_⟩
  obtain ⟨j,hj⟩:∃j,k.toNat=j+1:=⟨k.toNat-1,by omega⟩
  rw[Q1k,Qk6]
  simp only
  rw[hj]
  show Qhl _ j=_
  rw[Qfj hi j (by omega)]
  congr 4
  omega
def Q42 (E:List Int) (i:Nat):List Int:=E.take i++List.replicate (E.length-i) 0
theorem Q8v:∀(E:List Int) (i:Nat) (k:Int),E[i]?=some k->List.zipWith (·+·) (Q42 E i) (Q2p E.length i k)=Q42 E (i+1)
 |[],i,k,h=>by simp at h
 |a::E,0,k,h=>by
  simp only[List.getElem?_cons_zero,Option.some.injEq] at h
  subst h
  simp only[Q42,Q2p,List.take_zero,List.nil_append,List.length_cons,Nat.sub_zero,List.replicate_succ,List.set_cons_zero,List.zipWith_cons_cons,List.take_succ_cons,List.cons_append]
  rw[show E.length+1-(0+1)=E.length by omega,List.zipWith_replicate]
  simp
 |a::E,i+1,k,h=>by
  have ih:=Q8v E i k (by simpa using h)
  simp only[Q42,Q2p,List.length_cons,List.replicate_succ,List.set_cons_succ,List.take_succ_cons,List.cons_append,List.zipWith_cons_cons] at ih⊢
  rw[show E.length+1-(i+1)=E.length-i by omega,show E.length+1-(i+1+1)=E.length-(i+1) by omega,ih]
  simp
theorem Qcp {E:List Int} {i:Nat} (h:E[i]?=some 0):Q42 E (i+1)=Q42 E i:=by
 have hi:i<E.length:=(List.getElem?_eq_some_iff.1 h).1
 have h0:E[i]=0:=(List.getElem?_eq_some_iff.1 h).2
 unfold Q42
 rw[List.take_add_one,h,show E.length-i=(E.length-(i+1))+1 by omega,List.replicate_succ]
 simp
theorem Qa5 {E:List Int} (h:∀x∈E,0<=x) (i:Nat):0<=(E.take i).sum/\(E.take i).sum<=E.sum:=by
 have h1:=(Q6p (E:=E.take i) (fun x hx=>h x (List.mem_of_mem_take hx))).1
 have h2:=(Q6p (E:=E.drop i) (fun x hx=>h x (List.mem_of_mem_drop hx))).1
 have h3:E.sum=(E.take i).sum+(E.drop i).sum:=by
  conv=>lhs;rw[<-List.take_append_drop i E]
  rw[List.sum_append]
 omega
theorem Qfk (E:List Int) (i:Nat):(Q42 E i).sum=(E.take i).sum:=by
 unfold Q42;rw[List.sum_append,Qfh];omega
theorem Qb2 {E:List Int} (hE:Q0m E.length E) {c:Dyadic} (h0:c≠0) (hf:Q63 c):∀(r:List Int) (i:Nat),E.drop i=r->Q3n E.length (some [(c,Q42 E i)]) (Qaz i r)=.ok [(c,E)]
 |[],i,h=>by
  have hle:=List.drop_eq_nil_iff.1 h
  rw[Qaz,Q3n]
  simp only[Option.getD_some]
  rw[show Q42 E i=E by unfold Q42;rw[List.take_of_length_le hle,show E.length-i=0 by omega];simp]
 |k::r,i,h=>by
  have hi:i<E.length:=by
   refine Nat.lt_of_not_le fun hle=>?_
   rw[List.drop_of_length_le hle] at h;cases h
  have hk:E[i]?=some k:=by
   have:=congrArg (fun l=>l[0]?) h
   simpa using this
  have hr:E.drop (i+1)=r:=by
   rw[List.drop_eq_getElem_cons hi] at h;injection h
  have ih:=Qb2 hE h0 hf r (i+1) hr
  have hks:=Q2a hE k (List.mem_of_getElem? hk)
  have ht1:=Qa5 hE.2.1 i
  have ht2:=Qa5 hE.2.1 (i+1)
  have hts:(E.take (i+1)).sum=(E.take i).sum+k:=by
   rw[List.take_add_one,hk,List.sum_append];simp
  by_cases hk0:k=0
  ·subst hk0
   have hfe:Qt8 i 0=[]:=by simp[Qt8]
   rw[Qaz,hfe,List.nil_append,<-Qcp hk]
   exact ih
  ·obtain ⟨x,hx,hev⟩:=Qk7 (n:=E.length) hi (k:=k) (by omega) (by omega)
   rw[Qaz,hx,List.singleton_append,Q3n,hev]
   simp only
   have hm:=mul1 (c:=c) (d:=1) (E:=Q42 E i) (F:=Q2p E.length i k) (by rw[Dyadic.mul_one];exact h0) (by rw[Dyadic.mul_one];exact hf) (by rw[Qfk];omega) (by rw[Q41 _ _ _ hi];omega) (by rw[Qfk,Q41 _ _ _ hi];have:=hE.2.2;omega)
   rw[hm,Dyadic.mul_one,Q8v E i k hk]
   exact ih
theorem Qig {E:List Int} {i:Nat} (hi:i<E.length) (h:∀j,j<i->E[j]?=some 0) (k:Int) (hk:E[i]?=some k):Q2p E.length i k=Q42 E (i+1):=by
 rw[<-Q8v E i k hk]
 have hz:∀j,j<=i->Q42 E j=List.replicate E.length 0:=by
  intro j
  induction j with
  |zero=>intro _;simp[Q42]
  |succ j ih=>
   intro hj
   rw[Qcp (h j (by omega))]
   exact ih (by omega)
 rw[hz i (Nat.le_refl _)]
 apply List.ext_getElem?
 intro j
 rw[List.getElem?_zipWith]
 unfold Q2p
 by_cases hj:j<E.length
 ·rw[List.getElem?_set,List.getElem?_replicate,if_pos hj]
  by_cases hij:i=j
  ·subst hij;simp[hi]
  ·rw[if_neg hij];simp
 ·rw[List.getElem?_eq_none (by simp;omega),List.getElem?_eq_none (l:=List.replicate E.length 0) (by simp;omega)]
theorem Qcq {E:List Int} (hE:Q0m E.length E):∀(r:List Int) (i:Nat),E.drop i=r->(∀j,j<i->E[j]?=some 0)->Q2j i r≠[]->Q3n E.length none (Qaz i r)=.ok [(1,E)]
 |[],i,_,_,hne=>absurd rfl hne
 |k::r,i,h,hz,hne=>by
  have hi:i<E.length:=by
   refine Nat.lt_of_not_le fun hle=>?_
   rw[List.drop_of_length_le hle] at h;cases h
  have hk:E[i]?=some k:=by
   have:=congrArg (fun l=>l[0]?) h
   simpa using this
  have hr:E.drop (i+1)=r:=by
   rw[List.drop_eq_getElem_cons hi] at h;injection h
  have hks:=Q2a hE k (List.mem_of_getElem? hk)
  by_cases hk0:k=0
  ·subst hk0
   have hfe:Qt8 i 0=[]:=by simp[Qt8]
   have hpe:Qfc i 0=[]:=by simp[Qfc]
   rw[Q2j,hpe,List.nil_append] at hne
   rw[Qaz,hfe,List.nil_append]
   refine Qcq hE r (i+1) hr (fun j hj=>?_) hne
   by_cases hji:j=i
   ·subst hji;exact hk
   ·exact hz j (by omega)
  ·obtain ⟨x,hx,hev⟩:=Qk7 (n:=E.length) hi (k:=k) (by omega) (by omega)
   rw[Qaz,hx,List.singleton_append,Q3n,hev]
   simp only
   rw[Qig hi hz k hk]
   exact Qb2 hE Qp2 Qa4 r (i+1) hr
theorem Qp3 {d:Dyadic} (h:d≠0):Qa3 d≠0:=by
 unfold Qa3
 split
 ·intro e
  refine h ?_
  have:d= - -d:=by grind
  rw[this,e];rfl
 ·exact h
theorem Qfl {d:Dyadic} (h:Q63 d):Q63 (Qa3 d):=by
 unfold Qa3
 split
 ·exact Qk0 h
 ·exact h
theorem Qfm {n:Nat} {p:Q0b} (h0:p.1≠0) (h:Qcn n p):Q1k n (.prod (Qb0 p))=.ok [(Qa3 p.1,p.2)]:=by
 obtain ⟨hl,hE⟩:p.2.length=n/\Q0m p.2.length p.2:=⟨h.2.1,by rw[h.2.1];exact h.2⟩
 rw[Q1k]
 unfold Qb0
 split
 ·rw[Q3n,Q1k,Qu3 (Qp3 h0) (Qfl h.1)]
  simp only
  have:=Qb2 hE (Qp3 h0) (Qfl h.1) p.2 0 rfl
  rw[hl] at this
  rw[<-this]
  congr 4
  simp[Q42,hl]
 ·rename_i hc
  have h1:Qa3 p.1=1:=Classical.byContradiction fun e=>hc (.inr e)
  have:=Qcq hE p.2 0 rfl (fun j hj=>absurd hj (Nat.not_lt_zero _)) (fun e=>hc (.inl e))
  rw[hl] at this
  rw[this,h1]
theorem Qih {n:Nat} {Q r:List Q0b} (h:Q18 n (Q++r)):Q18 n Q:=
 ⟨(List.pairwise_append.1 h.1).1,by have:=h.2.1;rw[List.length_append] at this;omega,fun p hp=>h.2.2 p (by simp[hp])⟩
theorem Qcr {n:Nat}:∀(r Q:List Q0b),Q18 n (Q++r)->Q3m n (some Q) (r.map Qlw)=.ok (Q++r)
 |[],Q,_=>by simp[Q3m]
 |p::r,Q,h=>by
  have hp:=h.2.2 p (by simp)
  have h':Q18 n ((Q++[p])++r):=by rw[List.append_assoc];exact h
  have h1:=Qih h'
  have ih:=Qcr r (Q++[p]) h'
  rw[List.map_cons]
  unfold Qlw
  rw[Q3m,Qfm hp.1 hp.2]
  simp only
  have ht:(if Q2y p.1=true then Q47 [(Qa3 p.1,p.2)] else [(Qa3 p.1,p.2)])=[p]:=by
   have h2:=Qfd (d:=p.1)
   split
   ·rename_i hb
    rw[if_pos hb] at h2
    simp[Q47,h2]
   ·rename_i hb
    rw[if_neg hb] at h2
    rw[h2]
  rw[ht,Qnj,Qf8 h1]
  simp only
  rw[show r.map (fun p=>(Q2y p.1,Ex.prod (Qb0 p)))=r.map Qlw from rfl,ih,List.append_assoc]
  rfl
theorem Qfn {n:Nat} {P:List Q0b} (h:Q18 n P):Q1k n (Q39 P)=.ok P:=by
 cases P with
 |nil=>
  simp only[Q39,if_true,Q1k,Q3m,Q3n,Qlx]
  rfl
 |cons p r=>
  have hp:=h.2.2 p (by simp)
  have h1:=Qcr r [p] h
  have ht:(if Q2y p.1=true then Q47 [(Qa3 p.1,p.2)] else [(Qa3 p.1,p.2)])=[p]:=by
   have h2:=Qfd (d:=p.1)
   split
   ·rename_i hb
    rw[if_pos hb] at h2
    simp[Q47,h2]
   ·rename_i hb
    rw[if_neg hb] at h2
    rw[h2]
  simp only[Q39,reduceCtorEq,if_false,List.map_cons]
  rw[Q1k]
  unfold Qlw
  rw[Q3m,Qfm hp.1 hp.2]
  simp only
  rw[ht,show r.map (fun p=>(Q2y p.1,Ex.prod (Qb0 p)))=r.map Qlw from rfl,h1]
  rfl
theorem Q4f (i:Nat) (hi:i<9):(Q2l i).length=6:=by rw[Q2l,Q5y (by omega)];rfl
theorem Qp4 {n most i:Nat} (hn:n<=most) (hm:most<=9) {s:List UInt8} {P:List Q0b} (hP:Q18 n P) {p:Nat} {t:List UInt8} (ha:At s p (Q5i i P++t)) (hp:p<=s.length):Qax s most i p=.ok (Q39 P,p+(Q5i i P).length):=by
 have h1:At s p (Q2l i++(Q15 P++10::t)):=by simpa[Q5i] using ha
 have h2:=At.fixed h1
 have h3:=At.app h1
 have hlen:=h1.len hp
 rw[List.length_append] at hlen
 have hs0:Q07 s (p+(Q2l i).length)=p+(Q2l i).length:=by
  cases P with
  |nil=>exact At.skip0 (t:=10::t) h3 (by decide)
  |cons q r=>
   have hq:=hP.2.2 q (by simp)
   obtain ⟨x,y,hx,hx32,hx45⟩:=Q6q (most:=most) hq.1 hq.2 hn hm
   cases hb:Q2y q.1
   ·have e:Q15 (q::r)=x::(y++Q0g false r):=by simp[Q15,Q0g,Q2n,hb,hx]
    rw[e] at h3
    exact At.skip0 (t:=(y++Q0g false r)++10::t) h3 hx32
   ·have e:Q15 (q::r)=45::(Q11 q++Q0g false r):=by simp[Q15,Q0g,Q2n,hb]
    rw[e] at h3
    exact At.skip0 (t:=(Q11 q++Q0g false r)++10::t) h3 (by decide)
 have h4:=Qp1 hn hm (Q3o s most 15) true hP hs0 (by omega) h3
 have h5:=At.app h3
 have h6:=h5.skip0 (by decide)
 unfold Qax
 rw[h2]
 simp only
 rw[show Q3o s most 16=Q4e (Q3o s most 15) true s most from rfl,h4]
 simp only
 rw[h6,if_pos h5.byte.1]
 congr 2
 simp only[Q5i,List.length_append,List.length_cons,List.length_nil];omega
theorem Qly {n most:Nat} (hn:n<=most) (hm:most<=9) {s:List UInt8}:∀(F:List (List Q0b)) (f p:Nat) (acc:List (Nat × Ex)),F≠[]->F.length<=f->(∀P∈F,Q18 n P)->p<=s.length->At s p (Q1n acc.length F)->
 ∃ls:List (Nat × Ex),Q40 s most f p acc=.ok (acc++ls)/\ls.map (·.2)=F.map Q39
 |[],_,_,_,h,_,_,_,_=>absurd rfl h
 |P::F,f+1,p,acc,_,hf,hr,hp,ha=>by
  have h1:=Qp4 hn hm (hr P (by simp)) (t:=Q1n (acc.length+1) F) ha hp
  have h2:=At.app (t:=Q5i acc.length P) ha
  have hlen0:=At.len (t:=Q5i acc.length P++Q1n (acc.length+1) F) ha hp
  rw[List.length_append] at hlen0
  have hple:p+(Q5i acc.length P).length<=s.length:=by omega
  have hlen:=h2.len hple
  unfold Q40
  rw[h1]
  simp only
  cases F with
  |nil=>
   simp only[Q1n,List.length_nil] at hlen
   rw[if_neg (by omega)]
   exact ⟨[(p,Q39 P)],rfl,rfl⟩
  |cons Q F=>
   have hpos:0<(Q1n (acc.length+1) (Q::F)).length:=by
    simp only[Q1n,Q5i,Q2l,List.length_append,List.length_cons];omega
   rw[if_pos (by omega)]
   obtain ⟨ls,h3,h4⟩:=Qly hn hm (Q::F) f (p+(Q5i acc.length P).length) (acc++[(p,Q39 P)]) (by simp) (by simpa using hf) (fun x hx=>hr x (by simp only[List.mem_cons] at hx⊢;exact .inr hx)) hple (by rw[List.length_append];exact h2)
   refine ⟨(p,Q39 P)::ls,?_,by simp[h4]⟩
   rw[h3,List.append_assoc];rfl
 |_::_,0,_,_,_,h,_,_,_=>by simp at h
theorem Q4k (n:Nat):(dec n).count 10=0:=by
 rw[List.count_eq_zero]
 intro h
 have:=Q57 n 10 h
 exact absurd this (by decide)
theorem Qii (neg:Bool) (v:Nat) (e:Int):(Q2i neg v e).count 10=0:=by
 unfold Q2i Q9p
 have h1:=Q4k v
 have h2:=Q4k e.natAbs
 have h3:(if e<0 then 45::dec e.natAbs else dec e.natAbs).count 10=0:=by split <;> simp[h2]
 have h4:(if e=0 then [] else 112::(if e<0 then 45::dec e.natAbs else dec e.natAbs)).count 10=0:=by
  split
  ·rfl
  ·rw[List.count_cons,h3];rfl
 rw[List.count_append,List.count_append,h1,h4]
 cases neg <;> rfl
theorem Qp5 (d:Dyadic):(dyT d).count 10=0:=by
 cases d with
 |zero=>decide
 |ofOdd n k h=>exact Qii _ _ _
theorem Q74:∀(i:Nat) (E:List Int),∀t∈Q2j i E,t.count 10=0
 |_,[],_,h=>by cases h
 |i,k::r,t,h=>by
  have h1:=Q4k (i+1)
  have h2:=Q4k k.toNat
  rw[Q2j] at h
  rcases List.mem_append.1 h with h|h
  ·unfold Qfc at h
   split at h
   ·rw[List.mem_singleton] at h;subst h
    rw[List.count_cons,h1];rfl
   ·split at h
    ·rw[List.mem_singleton] at h;subst h
     rw[List.count_cons,List.count_append,List.count_cons,h1,h2];rfl
    ·cases h
  ·exact Q74 (i+1) r t h
theorem Qb3:∀(l:List (List UInt8)),(∀t∈l,t.count 10=0)->(Q48 l).count 10=0
 |[],_=>rfl
 |[x],h=>h x (by simp)
 |x::y::r,h=>by
  have h1:=h x (by simp)
  have ih:=Qb3 (y::r) (fun t ht=>h t (by simp only[List.mem_cons] at ht⊢;exact .inr ht))
  rw[Q48,List.count_append,List.count_cons,h1,ih];rfl
theorem Qij (p:Q0b):(Q11 p).count 10=0:=by
 refine Qb3 _ fun t ht=>?_
 unfold Q3p at ht
 split at ht
 ·rcases List.mem_cons.1 ht with rfl|ht
  ·exact Qp5 _
  ·exact Q74 _ _ t ht
 ·exact Q74 _ _ t ht
theorem Q9f:∀(b:Bool) (l:List Q0b),(Q0g b l).count 10=0
 |_,[]=>rfl
 |b,p::r=>by
  have h1:(Q2n b p).count 10=0:=by unfold Q2n;split <;> split <;> decide
  rw[Q0g,List.count_append,List.count_append,h1,Qij,Q9f false r]
theorem Qdx (P:List Q0b):(Q15 P).count 10=0:=by
 unfold Q15
 split
 ·decide
 ·exact Q9f _ _
theorem Qrs (i:Nat) (P:List Q0b):(Q5i i P).count 10=1:=by
 rw[Q5i,Q2l,List.count_append,List.count_cons,List.count_append,List.count_append,Qdx,Q4k];rfl
theorem Qfo:∀(i:Nat) (F:List (List Q0b)),(Q1n i F).count 10=F.length
 |_,[]=>rfl
 |i,P::F=>by rw[Q1n,List.count_append,Qrs,Qfo (i+1) F,List.length_cons];omega
end Go.Proofs.YtdilmfakkppgpaaGreatDoor
namespace Go.Proofs.YtdilmfakkppgpaaGreatDoor
open Go.RowKit WordsM
def RdZ (w:World) (B:Nat) (a:Option Addr) (E:List Int):Prop:=
 E=[]∨∃b o,a=some ⟨b,o,none⟩/\b<B/\∀(j:Nat) x,E[j]?=some x->w.cell? ⟨b,o+j,none⟩=some (.int .i64 x)
section
variable {w w':World} {B B':Nat} {a:Option Addr} {E:List Int}
theorem RdZ.keep (h:RdZ w B a E) (hk:∀p:Addr,p.block<B->w'.cell? p=w.cell? p):RdZ w' B a E:=by
 rcases h with rfl|⟨b,o,rfl,hb,hc⟩
 ·exact .inl rfl
 ·exact .inr ⟨b,o,rfl,hb,fun j x hx=>(hk _ hb).trans (hc j x hx)⟩
theorem RdZ.more (h:RdZ w B a E) (hB:B<=B'):RdZ w B' a E:=by
 rcases h with rfl|⟨b,o,rfl,hb,hc⟩
 ·exact .inl rfl
 ·exact .inr ⟨b,o,rfl,by omega,hc⟩
theorem RdZ.below (h:RdZ w B a E) (hb:Below B w w'):RdZ w' B a E:=h.keep fun _ hp=>hb.cell hp
theorem RdZ.at_ {k:Nat} {x:Int} (h:RdZ w B a E) (hx:E[k]?=some x):∃b o,a=some ⟨b,o,none⟩/\b<B/\w.cell? ⟨b,o+k,none⟩=some (.int .i64 x):=by
 rcases h with rfl|⟨b,o,rfl,hb,hc⟩
 ·simp at hx
 ·exact ⟨b,o,rfl,hb,hc k x hx⟩
end
def Qwg (a:Option Addr) (E:List Int):Prop:=(∀x∈E,-9223372036854775808<=x/\x<=9223372036854775807)/\∀b o,a=some ⟨b,o,none⟩->o=0
theorem Qwg.new {b:Nat} {E:List Int} (h:∀x∈E,-9223372036854775808<=x/\x<=9223372036854775807):Qwg (some ⟨b,0,none⟩) E:=⟨h,fun _ _ e=>by cases e;rfl⟩
structure Q0k (w:World) (a:Option Addr) (n c:Nat) (E:List Int):Prop where
 len:E.length=n
 cap:n<=c
 most:c<=9223372036854775807
 rng:Qwg a E
 rd:RdZ w w.heap.size a E
theorem Q0k.step {w w':World} {a:Option Addr} {n c:Nat} {E:List Int} (h:Q0k w a n c E) (hb:Below w.heap.size w w'):Q0k w' a n c E:=⟨h.len,h.cap,h.most,h.rng,(h.rd.below hb).more hb.size⟩
structure Q2s (w:World) (b:Nat) (v0 v1 v2 v3:Value):Prop where
 c0:w.cell? ⟨b,0,none⟩=some v0
 c1:w.cell? ⟨b,1,none⟩=some v1
 c2:w.cell? ⟨b,2,none⟩=some v2
 c3:w.cell? ⟨b,3,none⟩=some v3
 f0:w.frozen? ⟨b,0,none⟩=false
 f1:w.frozen? ⟨b,1,none⟩=false
 f2:w.frozen? ⟨b,2,none⟩=false
 f3:w.frozen? ⟨b,3,none⟩=false
theorem Q2s.new (w:World) (v0 v1 v2 v3:Value) (T:TypeId):Q2s (w.alloc (.cells #[v0,v1,v2,v3] T)) w.heap.size v0 v1 v2 v3:=
 ⟨by rw[cell_of_row _ _ _ _ _ _ (heap_alloc_new _ _)];rfl,by rw[cell_of_row _ _ _ _ _ _ (heap_alloc_new _ _)];rfl,by rw[cell_of_row _ _ _ _ _ _ (heap_alloc_new _ _)];rfl,by rw[cell_of_row _ _ _ _ _ _ (heap_alloc_new _ _)];rfl,
   frozen_of_row _ _ _ _ _ (heap_alloc_new _ _),frozen_of_row _ _ _ _ _ (heap_alloc_new _ _),frozen_of_row _ _ _ _ _ (heap_alloc_new _ _),frozen_of_row _ _ _ _ _ (heap_alloc_new _ _)⟩
theorem Q2s.step {w w':World} {b B:Nat} {v0 v1 v2 v3:Value} (h:Q2s w b v0 v1 v2 v3) (hb:Below B w w') (hB:b<B):Q2s w' b v0 v1 v2 v3:=
 ⟨(hb.cell (p:=⟨b,0,none⟩) hB).trans h.c0,(hb.cell (p:=⟨b,1,none⟩) hB).trans h.c1,(hb.cell (p:=⟨b,2,none⟩) hB).trans h.c2,(hb.cell (p:=⟨b,3,none⟩) hB).trans h.c3,(hb.frozen (p:=⟨b,0,none⟩) hB).trans h.f0,(hb.frozen (p:=⟨b,1,none⟩) hB).trans h.f1,(hb.frozen (p:=⟨b,2,none⟩) hB).trans h.f2,(hb.frozen (p:=⟨b,3,none⟩) hB).trans h.f3⟩
theorem Qdy {E:List Int} {i:Nat} {x:Int} (h:E[i]?=some x):(E.take (i+1)).sum=(E.take i).sum+x:=by
 rw[List.take_add_one,h,List.sum_append];simp
theorem Qb4 {E:List Int} {i:Nat} {x:Int} (h:x∈E.take i):∃j,j<i/\E[j]?=some x:=by
 obtain ⟨j,hj⟩:=List.mem_iff_getElem?.1 h
 rw[List.getElem?_take] at hj
 split at hj
 ·exact ⟨j,by assumption,hj⟩
 ·cases hj
theorem Qk8 (n:Bool) (e:Int) (a:Option Addr) (l c:Nat) (L:List Nat) (b:Option Addr) (m d:Nat) (E:List Int) (k:Nat) (w:World) (h:WordsIn w a l c L) (hE:Q0k w b m d E) (hk:k<=9223372036854775807) (he: -9223372036854775808<=e) (he2:e<=9223372036854775807):
 Calls Tryz.prog 87 #[.agg #[.bool n,.int .i64 e,.slice a l c,.slice b m d],.int .i64 (k:Int)] w fun r w'=>r=.returned (.bool (decide (Q0m k E/\Q0h n e L)))/\Below w.heap.size w w':=by
 obtain ⟨rs,hrs⟩:∃rs,decide (Q0m k E/\Q0h n e L)=rs:=⟨_,rfl⟩
 rw[hrs]
 have HRS:=Lib.hid hrs
 clear hrs
 have hb1:Below w.heap.size w (w.alloc (.cells #[.bool n,.int .i64 e,.slice a l c,.slice b m d] 44)):=(Below.refl _ _).alloc (Nat.le_refl _) _
 have hX:=Q2s.new w (.bool n) (.int .i64 e) (.slice a l c) (.slice b m d) 44
 have hlt:=Q0f w (.cells #[.bool n,.int .i64 e,.slice a l c,.slice b m d] 44)
 generalize hW:w.alloc (.cells #[.bool n,.int .i64 e,.slice a l c,.slice b m d] 44)=W at hb1 hX hlt
 have hx0:=hX.c0
 have hx1:=hX.c1
 have hx2:=hX.c2
 have hx3:=hX.c3
 have hln:=hE.len
 subst hln
 have hrt:=Q28 n e a l c L W (h.step hb1) he he2 (by have:=h.cap;have:=h.most;omega)
 have hrd:=hE.rd.below hb1
 have hcm:=Nat.le_trans hE.cap hE.most
 have HC:=Xh4 hrt hrd hb1 hE.rng.1
 clear hb1 hX hlt hrt hrd h hE
 go_enter Tryz.func87,Tryz.ntmps87
 go_wp2_with fail
 go_loopw [5,11] (fun lv iv wr=>∃(i:Nat) (s:Int),lv=.int .i64 (8-s)/\iv=.int .i64 (i:Int)/\i<=E.length/\(E.take i).sum=s/\0<=s/\s<=8/\(∀x∈E.take i,0<=x)/\W=wr) (fun _ iv _=>E.length-(intOf iv).toNat)
 case atStart=>exact ⟨0,0,rfl,rfl,Nat.zero_le _,by simp,by decide,by decide,by simp,rfl⟩
 case round=>
  obtain ⟨i,s,rfl,rfl,hi,hs,hs0,hs8,hpos,rfl⟩:=hrel
  by_cases hlt:i<E.length
  ·have hlt':(i:Int)<(E.length:Int):=by omega
   obtain ⟨x,hx⟩:∃x,E[i]?=some x:=⟨_,List.getElem?_eq_getElem hlt⟩
   obtain ⟨ba,oa,hae,hba,hcx⟩:=(Xo1 HC).at_ hx
   subst hae
   have hxr:=(Xe3 HC) x (List.mem_of_getElem? hx)
   have hsn:=Qdy hx
   have HS:=Xh4 hs hsn hpos hx
   clear hs hsn hpos hx
   by_cases hx0':x<0
   ·go_wp2_with fail
    go_ret
    have hno:¬(Q0m k E/\Q0h n e L):=fun h=>by
     have:=h.1.2.1 x (List.mem_of_getElem? (Xe3 HS))
     omega
    have hf:rs=false:=by rw[<-HRS.out];exact decide_eq_false hno
    exact ⟨by rw[hf];rfl,(Xo2 HC)⟩
   ·by_cases hx8:8-s<x
    ·go_wp2_with fail
     go_ret
     have hno:¬(Q0m k E/\Q0h n e L):=fun h=>by
      have h1:=(Qa5 h.1.2.1 (i+1)).2
      have h2:=h.1.2.2
      have h3:=(Xo0 HS)
      have h4:=(Xo1 HS)
      omega
     have hf:rs=false:=by rw[<-HRS.out];exact decide_eq_false hno
     exact ⟨by rw[hf];rfl,(Xo2 HC)⟩
    ·go_wp2_with fail
     refine ⟨⟨i+1,s+x,by simp only[Value.int.injEq,true_and];omega,by simp,by omega,by rw[(Xo1 HS),(Xo0 HS)],by omega,by omega,fun y hy=>?_,trivial⟩,by simp only[intOf];omega⟩
     obtain ⟨j,hj,hjy⟩:=Qb4 hy
     by_cases hji:j=i
     ·subst hji
      have h5:=(Xe3 HS)
      rw[hjy] at h5
      injection h5 with h5
      omega
     ·exact (Xo2 HS) y (List.mem_iff_getElem?.2 ⟨j,by rw[List.getElem?_take,if_pos (by omega)];exact hjy⟩)
  ·obtain rfl:i=E.length:=by omega
   have hlt':¬((E.length:Int)<(E.length:Int)):=by omega
   rw[List.take_length] at hs hpos
   by_cases hk2:E.length=k
   ·subst hk2
    have hre:Q0m E.length E:=⟨rfl,hpos,by omega⟩
    have hee:((E.length:Int)==(E.length:Int))=true:=by simp
    have HS:=Lib.hid hre
    clear hre hs hpos
    go_wp2_with (refine (Xo0 HC).mono ?_;rintro r w1 ⟨rfl,hb1⟩;have HA:=Lib.hid hb1;clear hb1)
    go_ret
    refine ⟨?_,Below.next0 (Xo2 HC) HA.out⟩
    have hiff:(Q0m E.length E/\Q0h n e L)↔Q0h n e L:=⟨fun h=>h.2,fun h=>⟨HS.out,h⟩⟩
    have hf:rs=decide (Q0h n e L):=by rw[<-HRS.out];exact decide_eq_decide.2 hiff
    rw[hf];rfl
   ·have hke:((E.length:Int)==(k:Int))=false:=by rw[beq_eq_false_iff_ne];omega
    have HS:=Lib.hid hk2
    clear hs hpos hk2
    go_wp2_with fail
    go_ret
    have hno:¬(Q0m k E/\Q0h n e L):=fun h=>HS.out h.1.1
    have hf:rs=false:=by rw[<-HRS.out];exact decide_eq_false hno
    exact ⟨by rw[hf];rfl,(Xo2 HC)⟩
end Go.Proofs.YtdilmfakkppgpaaGreatDoor
