/- Part 12 of the proof of LawParseShows: ShowM, ShowM2, ShowM3, Mono, PolyA. Condition: as each theorem says; none at the end. -/
import Derived.Test.YtdilmfakkppgpaaGreatDoorPkParseShows11
set_option maxRecDepth 100000
set_option maxHeartbeats 16000000
namespace Go.Proofs.YtdilmfakkppgpaaGreatDoor
open Go.RowKit WordsM DecM
def Q8l (i:Nat) (k:Int):List (List UInt8):=
 if k=1 then [120::dec (i+1)] else if 1<k then [120::(dec (i+1)++94::dec k.toNat)] else []
def Q0z:Nat->List Int->List (List UInt8)
 |_,[]=>[]
 |i,k::r=>Q8l i k++Q0z (i+1) r
def Q4c:Dyadic->Bool
 | .zero=>false
 | .ofOdd n _ _=>decide (n<0)
def Qjf (d:Dyadic):Dyadic:=if Q4c d=true then -d else d
def dyT:Dyadic->List UInt8
 | .zero=>[48]
 | .ofOdd n k _=>Q28 (decide (n<0)) n.natAbs (-k)
def Q1x:List (List UInt8)->List UInt8
 |[]=>[]
 |[x]=>x
 |x::y::r=>x++42::Q1x (y::r)
def Q2v (p:Q0f):List (List UInt8):=
 if Q0z 0 p.2=[]∨Qjf p.1≠1 then dyT (Qjf p.1)::Q0z 0 p.2 else Q0z 0 p.2
def Q1f (p:Q0f):List UInt8:=Q1x (Q2v p)
def Q2d (first:Bool) (p:Q0f):List UInt8:=
 if first=true then (if Q4c p.1=true then [45] else []) else (if Q4c p.1=true then [32,45,32] else [32,43,32])
def Q0l:Bool->List Q0f->List UInt8
 |_,[]=>[]
 |first,p::r=>Q2d first p++(Q1f p++Q0l false r)
def Q4n (P:List Q0f):List UInt8:=if P=[] then [48] else Q0l true P
def Q4o (i:Nat) (P:List Q0f):List UInt8:=Q32 i++(Q4n P++[10])
def Q19:Nat->List (List Q0f)->List UInt8
 |_,[]=>[]
 |i,P::r=>Q4o i P++Q19 (i+1) r
theorem Q80 {neg:Bool} {v:Nat} {e:Int} (ho:v%2=1):Q4c (dy (sgn neg v) e)=neg:=by
 rw[Q9r (Q3l ho)]
 cases neg
 ·simp[Q4c,sgn]
 ·simp[Q4c,sgn];omega
theorem Qg9 {neg:Bool} {v:Nat} {e:Int} (ho:v%2=1):dyT (dy (sgn neg v) e)=Q28 neg v e:=by
 have h:=Q80 (neg:=neg) (e:=e) ho
 rw[Q9r (Q3l ho)] at h⊢
 simp only[Q4c] at h
 simp only[dyT,h,Q9s,Int.neg_neg]
theorem Qcc {neg:Bool} {v:Nat} {e:Int} (ho:v%2=1):Qjf (dy (sgn neg v) e)=dy (sgn false v) e:=by
 unfold Qjf
 rw[Q80 ho]
 cases neg
 ·rfl
 ·rw[if_pos rfl,Qqf];congr 1;simp[sgn]
theorem Qm9 (d:Dyadic):d=0∨∃(neg:Bool) (v:Nat) (e:Int),v%2=1/\d=dy (sgn neg v) e:=by
 cases d with
 |zero=>exact .inl rfl
 |ofOdd n k h=>
  refine .inr ⟨decide (n<0),n.natAbs,-k,by omega,?_⟩
  have hs:sgn (decide (n<0)) n.natAbs=n:=by
   unfold sgn
   by_cases hn:n<0
   ·rw[if_pos (by simpa using hn)];omega
   ·rw[if_neg (by simpa using hn)];omega
  rw[hs,Q9r h,Int.neg_neg]
def At (s:List UInt8) (p:Nat) (t:List UInt8):Prop:=s.drop p=t
theorem At.byte {s:List UInt8} {p:Nat} {c:UInt8} {t:List UInt8} (h:At s p (c::t)):Q0c s p=c/\At s (p+1) t:=by
 unfold At at*
 have hp:p<s.length:=by
  refine Nat.lt_of_not_le fun hle=>?_
  rw[List.drop_of_length_le hle] at h;cases h
 rw[List.drop_eq_getElem_cons hp] at h
 injection h with h1 h2
 refine ⟨?_,h2⟩
 unfold Q0c
 rw[List.getD_eq_getElem?_getD,List.getElem?_eq_getElem hp]
 exact h1
theorem At.end_ {s:List UInt8} {p:Nat} (h:At s p []):Q0c s p=0:=by
 unfold At at h
 have hp:s.length<=p:=List.drop_eq_nil_iff.1 h
 unfold Q0c
 rw[List.getD_eq_getElem?_getD,List.getElem?_eq_none hp];rfl
theorem At.app {s:List UInt8} {p:Nat} {t u:List UInt8} (h:At s p (t++u)):At s (p+t.length) u:=by
 unfold At at*
 rw[<-List.drop_drop,h,List.drop_left]
theorem At.len {s:List UInt8} {p:Nat} {t:List UInt8} (h:At s p t) (hp:p<=s.length):s.length=p+t.length:=by
 unfold At at h
 have:=congrArg List.length h
 rw[List.length_drop] at this
 omega
theorem At.fixed {s:List UInt8}:∀{t:List UInt8} {p:Nat} {u:List UInt8},At s p (t++u)->Q1v s t p=.ok (p+t.length)
 |[],p,u,_=>rfl
 |c::t,p,u,h=>by
  obtain ⟨h1,h2⟩:=At.byte (t:=t++u) h
  rw[Q1v,if_pos h1,At.fixed h2]
  simp only[List.length_cons]
  congr 1;omega
theorem At.skip0 {s:List UInt8} {p:Nat} {c:UInt8} {t:List UInt8} (h:At s p (c::t)) (hc:c≠32):Q07 s p=p:=Q5t (by rw[h.byte.1];exact hc)
theorem At.word {s:List UInt8} {p:Nat} {t u:List UInt8} (h:At s p (t++u)) (ha:Qff t) (hu:digN u=0):Q1b s p=p+t.length:=by
 unfold Q1b At at*
 rw[h,Qc5 t u ha,hu,Nat.add_zero]
def Qhs (u:List UInt8):Prop:=digN u=0/\∀c r,u=c::r->c≠112
theorem Qos (e:Int) {u:List UInt8} (hu:Qhs u):digN (Q8h e++u)=0:=by
 unfold Q8h
 split
 ·exact hu.1
 ·show digN (112::_)=0
  rw[digN,if_neg];decide
theorem Qjg {s:List UInt8} {p:Nat} {v:Nat} {e:Int} {u:List UInt8} (h:At s p (Q28 false v e++u)) (hu:Qhs u):Q8w s p=p+(Q28 false v e).length:=by
 have ht:Q28 false v e=dec v++Q8h e:=rfl
 rw[ht,List.append_assoc] at h
 rw[ht]
 have hw:=h.word (Q4i v) (Qos e hu)
 have h2:=h.app
 unfold Q8w
 rw[hw]
 unfold Q8h at h2⊢
 by_cases h0:e=0
 ·rw[if_pos h0] at h2⊢
  rw[List.nil_append] at h2
  have hne:Q0c s (p+(dec v).length)≠112:=by
   cases u with
   |nil=>rw[h2.end_];decide
   |cons c r=>rw[h2.byte.1];exact hu.2 c r rfl
  rw[if_neg hne,List.append_nil]
 ·rw[if_neg h0] at h2⊢
  obtain ⟨h3,h4⟩:=At.byte (t:=(if e<0 then 45::dec e.natAbs else dec e.natAbs)++u) h2
  rw[if_pos h3]
  by_cases hneg:e<0
  ·rw[if_pos hneg] at h4⊢
   obtain ⟨h5,h6⟩:=At.byte (t:=dec e.natAbs++u) h4
   rw[if_pos h5,h6.word (Q4i _) hu.1]
   simp only[List.length_append,List.length_cons];omega
  ·rw[if_neg hneg] at h4⊢
   have hd:=Q2p e.natAbs
   have h5:Q0c s (p+(dec v).length+1)≠45:=by
    cases hc:dec e.natAbs with
    |nil=>rw[hc] at hd;simp at hd
    |cons c r=>
     rw[hc] at h4
     have h6:=(At.byte (t:=r++u) h4).1
     rw[h6]
     have:=Q4i e.natAbs c (by rw[hc];simp)
     rintro rfl
     exact absurd this (by decide)
   rw[if_neg h5,h4.word (Q4i _) hu.1]
   simp only[List.length_append,List.length_cons];omega
theorem Qot (c a b j:Nat) (h:a*b<=j) (hc:0<c):(c^a)^b<=c^j:=by
 rw[<-Nat.pow_mul];exact Nat.pow_le_pow_right hc h
theorem Qdu:(2^64)^64<=10^1300:=by
 have h1:((2:Nat)^64)^64=((2^64)^2)^32:=by rw[<-Nat.pow_mul (2^64) 2 32]
 rw[h1]
 exact Nat.le_trans (Nat.pow_le_pow_left (show ((2:Nat)^64)^2<=10^40 by decide) 32) (Qot 10 40 32 1300 (by decide) (by decide))
theorem Q9z (v:Nat) (e:Int):∃c r,Q28 false v e=c::r/\48<=c.toNat/\c.toNat<=57:=by
 have hd:=Q2p v
 cases hc:dec v with
 |nil=>rw[hc] at hd;simp at hd
 |cons c r=>
  refine ⟨c,r++Q8h e,?_,Q4i v c (by rw[hc];simp)⟩
  show dec v++Q8h e=_
  rw[hc];rfl
theorem Qma {s:List UInt8} {p:Nat} {v:Nat} {e:Int} {u:List UInt8} (h:At s p (Q28 false v e++u)) (hu:Qhs u) (h1: -65536<=e) (h2:e<=65536) (hv:v<(2^64)^64) (h0:v=0->e=0) (hf:Q7o (dy (sgn false v) e)):
 Qg8 s p=.ok (.num (some (dy (sgn false v) e)),p+(Q28 false v e).length):=by
 have hn:=Qjg h hu
 unfold Qg8
 rw[hn,Nat.add_sub_cancel_left]
 have ht:(s.drop p).take (Q28 false v e).length=Q28 false v e:=by
  unfold At at h;rw[h,List.take_left]
 rw[ht,Qlo false v e h1 h2 (Nat.lt_of_lt_of_le hv Qdu) (fun h=>⟨rfl,h0 h⟩)]
 simp only
 rw[if_pos ((Q2c _).2 hf)]
def nb (u:List UInt8):UInt8:=(u.drop (Q6o u)).headD 0
theorem At.nb {s:List UInt8} {q:Nat} {u:List UInt8} (h:At s q u):Q0c s (Q07 s q)=nb u:=by
 unfold At at h
 unfold Q07
 rw[h]
 have h2:At s (q+Q6o u) (u.drop (Q6o u)):=by unfold At;rw[<-List.drop_drop,h]
 unfold Go.Proofs.YtdilmfakkppgpaaGreatDoor.nb
 cases hc:u.drop (Q6o u) with
 |nil=>rw[hc] at h2;exact h2.end_
 |cons c r=>rw[hc] at h2;exact h2.byte.1
def Qht (u:List UInt8):Prop:=Qhs u/\nb u≠94
def FR (most:Nat) (t:List UInt8) (x:Ex):Prop:=(∃c r,t=c::r/\c≠32)/\∀(s:List UInt8) (sub:Nat->PR Ex) (opens:Bool) (p:Nat) (u:List UInt8),At s (Q07 s p) (t++u)->Qht u->∃q,Q29 sub opens s most p=.ok (x,q)/\Q07 s q=Q07 s (Q07 s p+t.length)
theorem Qqj (most:Nat) {v:Nat} {e:Int} (h1: -65536<=e) (h2:e<=65536) (hv:v<(2^64)^64) (h0:v=0->e=0) (hf:Q7o (dy (sgn false v) e)):FR most (Q28 false v e) (.num (some (dy (sgn false v) e))):=by
 refine ⟨?_,fun s sub opens p u h hu=>?_⟩
 ·obtain ⟨c,r,hc,hc1,_⟩:=Q9z v e
  exact ⟨c,r,hc,fun e=>by rw[e] at hc1;exact absurd hc1 (by decide)⟩
 ·obtain ⟨c,r,hc,hc1,hc2⟩:=Q9z v e
  have hb:Q0c s (Q07 s p)=c:=by
   have h':=h
   rw[hc] at h'
   exact (At.byte (t:=r++u) h').1
  have hn:=Qma h hu.1 h1 h2 hv h0 hf
  have ha:Q0c s (Q07 s (Q07 s p+(Q28 false v e).length))=nb u:=(At.app h).nb
  refine ⟨Q07 s (Q07 s p+(Q28 false v e).length),?_,Q76 _ _⟩
  unfold Q29 Q4w
  rw[hb,if_pos ⟨hc1,hc2⟩,hn]
  simp only
  rw[if_neg (by rw[ha];exact hu.2)]
theorem Q5d {i:Nat} (h:i<10):dec i=[UInt8.ofNat (48+i)]:=Q1n h
theorem Q78 {i:Nat} (h:i<10):(UInt8.ofNat (48+i)).toNat=48+i:=Q3v i h
theorem Qhu {most i:Nat} (hi:i<9) (hm:i+1<=most) (s:List UInt8) (sub:Nat->PR Ex) (opens:Bool) (p:Nat) (u:List UInt8) (h:At s (Q07 s p) (120::(dec (i+1)++u))):Q4w sub opens s most p=.ok (.var i,Q07 s p+2):=by
 obtain ⟨h1,h2⟩:=h.byte
 rw[Q5d (by omega)] at h2
 obtain ⟨h3,h4⟩:=At.byte (t:=u) h2
 unfold Q4w
 rw[h1,if_neg (by decide),if_pos rfl,h3,Q78 (by omega),if_pos (by omega)]
 congr 2
 congr 1
 omega
theorem Qsb {most i:Nat} (hi:i<9) (hm:i+1<=most):FR most (120::dec (i+1)) (.var i):=by
 refine ⟨⟨_,_,rfl,by decide⟩,fun s sub opens p u h hu=>?_⟩
 have hb:=Qhu hi hm s sub opens p u h
 have hl:(120::dec (i+1)).length=2:=by rw[Q5d (by omega)];rfl
 have ha:Q0c s (Q07 s (Q07 s p+(120::dec (i+1)).length))=nb u:=(At.app (t:=120::dec (i+1)) h).nb
 rw[hl] at ha⊢
 refine ⟨Q07 s (Q07 s p+2),?_,Q76 _ _⟩
 unfold Q29
 rw[hb]
 simp only
 rw[if_neg (by rw[ha];exact hu.2)]
theorem Qsc {most i k:Nat} (hi:i<9) (hm:i+1<=most) (hk:k<=8):FR most (120::(dec (i+1)++94::dec k)) (.pow (.var i) k):=by
 refine ⟨⟨_,_,rfl,by decide⟩,fun s sub opens p u h hu=>?_⟩
 have h':At s (Q07 s p) (120::(dec (i+1)++(94::(dec k++u)))):=by simpa using h
 have hb:=Qhu hi hm s sub opens p _ h'
 have hl:(120::dec (i+1)).length=2:=by rw[Q5d (by omega)];rfl
 have hlen:(120::(dec (i+1)++94::dec k)).length=4:=by rw[Q5d (by omega),Q5d (i:=k) (by omega)];rfl
 have h2:At s (Q07 s p+2) (94::(dec k++u)):=by
  have:=At.app (t:=120::dec (i+1)) (u:=94::(dec k++u)) h'
  rwa[hl] at this
 obtain ⟨h3,h4⟩:=h2.byte
 have hs2:=h2.skip0 (by decide)
 rw[Q5d (i:=k) (by omega)] at h4
 obtain ⟨h5,h6⟩:=At.byte (t:=u) h4
 have hs3:=At.skip0 (t:=u) h4 (fun e=>by have:=congrArg UInt8.toNat e;rw[Q78 (by omega)] at this;have h32:(32:UInt8).toNat=32:=rfl;omega)
 rw[hlen]
 refine ⟨Q07 s p+4,?_,rfl⟩
 unfold Q29
 rw[hb]
 simp only
 rw[hs2,if_pos h3,hs3,h5,Q78 (by omega),if_pos (by omega)]
 congr 2
 congr 1
 omega
def FRs (most:Nat):List (List UInt8)->List Ex->Prop
 |[],[]=>True
 |t::ts,x::xs=>FR most t x/\FRs most ts xs
 |_,_=>False
theorem Qmb {most:Nat}:∀{ts us:List (List UInt8)} {xs ys:List Ex},FRs most ts xs->FRs most us ys->FRs most (ts++us) (xs++ys)
 |[],_,[],_,_,h=>h
 |_::_,_,_::_,_,h,h'=>⟨h.1,Qmb h.2 h'⟩
 |[],_,_::_,_,h,_=>h.elim
 |_::_,_,[],_,h,_=>h.elim
theorem Qou (t:List UInt8):Qht (42::t):=⟨⟨by rw[digN,if_neg];decide,fun c r h=>by injection h with h1 _;rw[<-h1];decide⟩,by simp[nb,Q6o]⟩
theorem Qa0 {most:Nat} {s:List UInt8} (sub:Nat->PR Ex) (opens:Bool) {u:List UInt8} (hu:Qht u) (hs:nb u≠42):∀(ts:List (List UInt8)) (xs:List Ex) (f p:Nat) (acc:List Ex),ts≠[]->FRs most ts xs->ts.length<=f->At s (Q07 s p) (Q1x ts++u)->
 Q41 sub opens s most f p acc=.ok (.prod (acc++xs),Q07 s (Q07 s p+(Q1x ts).length))
 |[],_,_,_,_,h,_,_,_=>absurd rfl h
 |[t],[x],f+1,p,acc,_,hf,_,h=>by
  obtain ⟨q,h1,h2⟩:=hf.1.2 s sub opens p u h hu
  have ha:Q0c s (Q07 s (Q07 s p+t.length))=nb u:=(At.app (t:=t) h).nb
  unfold Q41
  rw[h1]
  simp only
  rw[h2,if_neg (by rw[ha];exact hs)]
  rfl
 |t::t'::ts,x::xs,f+1,p,acc,_,hf,hl,h=>by
  have h':At s (Q07 s p) (t++(42::(Q1x (t'::ts)++u))):=by simpa[Q1x] using h
  obtain ⟨q,h1,h2⟩:=hf.1.2 s sub opens p _ h' (Qou _)
  have h3:=At.app h'
  have h4:=h3.skip0 (by decide)
  obtain ⟨h5,h6⟩:=h3.byte
  have hne:Q1x (t'::ts)++u≠[]/\Q07 s (Q07 s p+t.length+1)=Q07 s p+t.length+1:=by
   obtain ⟨c,r,hc,hc32⟩:∃c r,Q1x (t'::ts)++u=c::r/\c≠32:=by
    have hf2:=hf.2
    cases xs with
    |nil=>exact hf2.elim
    |cons y ys=>
     obtain ⟨c,r,hc,hc32⟩:=hf2.1.1
     subst hc
     cases ts with
     |nil=>exact ⟨c,r++u,rfl,hc32⟩
     |cons a b=>exact ⟨c,_,rfl,hc32⟩
   rw[hc] at h6⊢
   exact ⟨by simp,h6.skip0 hc32⟩
  have ih:=Qa0 sub opens hu hs (t'::ts) xs f (Q07 s p+t.length+1) (acc++[x]) (by simp) hf.2 (by simpa using hl) (by rw[hne.2];exact h6)
  unfold Q41
  rw[h1]
  simp only
  rw[h2,h4,if_pos h5,ih,hne.2]
  simp only[Q1x,List.length_append,List.length_cons,List.append_assoc,List.singleton_append]
  congr 3;omega
 |[t],[],_,_,_,_,hf,_,_=>hf.elim
 |_::_::_,[],_,_,_,_,hf,_,_=>hf.elim
 |[t],_::_::_,_,_,_,_,hf,_,_=>hf.2.elim
 |_::_,_,0,_,_,_,_,hl,_=>by simp at hl
def facE (i:Nat) (k:Int):List Ex:=if k=1 then [.var i] else if 1<k then [.pow (.var i) k.toNat] else []
def Qov:Nat->List Int->List Ex
 |_,[]=>[]
 |i,k::r=>facE i k++Qov (i+1) r
def Qga (p:Q0f):List Ex:=if Q0z 0 p.2=[]∨Qjf p.1≠1 then .num (some (Qjf p.1))::Qov 0 p.2 else Qov 0 p.2
def Qs4 (p:Q0f):Bool × Ex:=(Q4c p.1,.prod (Qga p))
def Qdv (P:List Q0f):Ex:=if P=[] then .sum [(false,.prod [.num (some 0)])] else .sum (P.map Qs4)
theorem Qcd {most:Nat}:∀(i:Nat) (E:List Int),i+E.length<=most->most<=9->(∀x∈E,0<=x/\x<=8)->FRs most (Q0z i E) (Qov i E)
 |_,[],_,_,_=>trivial
 |i,k::r,h,hm,hk=>by
  have ih:=Qcd (i+1) r (by simp only[List.length_cons] at h;omega) hm (fun x hx=>hk x (by simp[hx]))
  have hk1:=hk k (by simp)
  refine Qmb ?_ ih
  simp only[List.length_cons] at h
  unfold Q8l facE
  split
  ·exact ⟨Qsb (by omega) (by omega),trivial⟩
  ·split
   ·exact ⟨Qsc (by omega) (by omega) (by omega),trivial⟩
   ·trivial
theorem Q65:∀{E:List Int},(∀x∈E,0<=x)->0<=E.sum/\∀x∈E,x<=E.sum
 |[],_=>⟨by simp,fun x hx=>by cases hx⟩
 |a::E,h=>by
  obtain ⟨h1,h2⟩:=Q65 (E:=E) (fun x hx=>h x (by simp[hx]))
  have h3:=h a (by simp)
  rw[List.sum_cons]
  refine ⟨by omega,fun x hx=>?_⟩
  rcases List.mem_cons.1 hx with rfl|hx
  ·omega
  ·have:=h2 x hx;omega
theorem Q2e {n:Nat} {E:List Int} (h:Q0v n E):∀x∈E,0<=x/\x<=8:=fun x hx=>by
 have h1:=(Q65 h.2.1).2 x hx
 have h2:=h.2.1 x hx
 have h3:=h.2.2
 omega
theorem Qsd (most:Nat) {d:Dyadic} (h0:d≠0) (hf:Q7o d):FR most (dyT (Qjf d)) (.num (some (Qjf d))):=by
 rcases Qm9 d with rfl|⟨neg,v,e,ho,rfl⟩
 ·exact absurd rfl h0
 ·rw[Qcc ho]
  rw[Qg9 ho]
  obtain ⟨h1,h2,h3⟩:=(Q62 (neg:=neg) ho).1 hf
  exact Qqj most h2 h3 h1 (fun h=>by omega) ((Q62 (neg:=false) ho).2 ⟨h1,h2,h3⟩)
theorem Qdw {n most:Nat} {p:Q0f} (h0:p.1≠0) (h:Qdr n p) (hn:n<=most) (hm:most<=9):FRs most (Q2v p) (Qga p)/\Q2v p≠[]:=by
 have h1:=Qcd (most:=most) 0 p.2 (by rw[h.2.1];omega) hm (Q2e h.2)
 unfold Q2v Qga
 split
 ·exact ⟨⟨Qsd most h0 h.1,h1⟩,by simp⟩
 ·rename_i hc
  exact ⟨h1,fun e=>hc (.inl e)⟩
theorem Qmc {most:Nat}:∀{ts:List (List UInt8)} {xs:List Ex},FRs most ts xs->ts.length<=(Q1x ts).length
 |[],_,_=>by simp
 |[t],[x],h=>by
  obtain ⟨c,r,hc,_⟩:=h.1.1
  simp only[Q1x,hc,List.length_cons,List.length_nil];omega
 |t::t'::ts,x::xs,h=>by
  have ih:=Qmc h.2
  simp only[Q1x,List.length_append,List.length_cons] at ih⊢
  omega
 |[_],[],h=>h.elim
 |_::_::_,[],h=>h.elim
 |[_],_::_::_,h=>h.2.elim
def Qce (u:List UInt8):Prop:=Qht u/\nb u≠42
theorem Qdx {n most:Nat} {p0:Q0f} (h0:p0.1≠0) (h:Qdr n p0) (hn:n<=most) (hm:most<=9) {s:List UInt8} (sub:Nat->PR Ex) (opens:Bool) {u:List UInt8} (hu:Qce u) {p:Nat} (hp:p<=s.length) (ha:At s (Q07 s p) (Q1f p0++u)):
 Q41 sub opens s most (s.length+1) p []=.ok (.prod (Qga p0),Q07 s (Q07 s p+(Q1f p0).length)):=by
 obtain ⟨h1,h2⟩:=Qdw h0 h hn hm
 have h3:=Qmc h1
 have h4:=ha.len (Q2h hp)
 have h5:=Qa0 sub opens hu.1 hu.2 (Q2v p0) (Qga p0) (s.length+1) p [] h2 h1 (by
  have h6:(Q1f p0++u).length=(Q1x (Q2v p0)).length+u.length:=by rw[List.length_append];rfl
  rw[h6] at h4
  omega) ha
 rw[List.nil_append] at h5
 exact h5
theorem Qow (c:UInt8) (t:List UInt8) (hc:c≠32) (hc2:c≠94) (hc3:c≠42):Qce (32::c::t):=by
 have hn:nb (32::c::t)=c:=by simp[nb,Q6o,hc]
 refine ⟨⟨⟨by rw[digN,if_neg];decide,fun x r h=>by injection h with h1 _;rw[<-h1];decide⟩,by rw[hn];exact hc2⟩,by rw[hn];exact hc3⟩
theorem Qhv {n most:Nat} (hn:n<=most) (hm:most<=9) {s:List UInt8} (sub:Nat->PR Ex) (opens:Bool) {u:List UInt8} (hu:Qce u) (hu1:nb u≠43) (hu2:nb u≠45):
 ∀(r:List Q0f) (p0:Q0f) (f p:Nat) (below:Bool) (acc:List (Bool × Ex)),(∀q∈p0::r,q.1≠0/\Qdr n q)->r.length<f->p<=s.length->At s (Q07 s p) (Q1f p0++(Q0l false r++u))->
 Q8x sub opens s most f p below acc=.ok (.sum (acc++(below,.prod (Qga p0))::r.map Qs4),Q07 s (Q07 s p+(Q1f p0++Q0l false r).length))
 |[],p0,f+1,p,below,acc,hr,_,hp,ha=>by
  have ht:=Qdx (hr p0 (by simp)).1 (hr p0 (by simp)).2 hn hm sub opens hu hp ha
  have hb:Q0c s (Q07 s (Q07 s p+(Q1f p0).length))=nb u:=(At.app (t:=Q1f p0) ha).nb
  unfold Q8x
  rw[ht]
  simp only
  rw[Q76,hb,if_neg hu1,if_neg hu2]
  simp[Q0l]
 |q::r,p0,f+1,p,below,acc,hr,hl,hp,ha=>by
  obtain ⟨c,hc,hcc,hc2⟩:∃c:UInt8,Q2d false q=[32,c,32]/\(c=43/\Q4c q.1=false∨c=45/\Q4c q.1=true)/\c≠32:=by
   unfold Q2d
   rw[if_neg (by decide)]
   cases hb:Q4c q.1
   ·exact ⟨43,by rw[if_neg (by decide)],.inl ⟨rfl,rfl⟩,by decide⟩
   ·exact ⟨45,by rw[if_pos rfl],.inr ⟨rfl,rfl⟩,by decide⟩
  have ha':At s (Q07 s p) (Q1f p0++(32::c::(32::(Q1f q++(Q0l false r++u))))):=by
   have e:Q0l false (q::r)++u=32::c::(32::(Q1f q++(Q0l false r++u))):=by
    rw[Q0l,hc];simp
   rw[<-e];exact ha
  have ht:=Qdx (hr p0 (by simp)).1 (hr p0 (by simp)).2 hn hm sub opens (Qow c _ hc2 (by rcases hcc with ⟨rfl,_⟩|⟨rfl,_⟩ <;> decide) (by rcases hcc with ⟨rfl,_⟩|⟨rfl,_⟩ <;> decide)) hp ha'
  have h1:=At.app ha'
  obtain ⟨h2,h3⟩:=h1.byte
  have h4:Q07 s (Q07 s p+(Q1f p0).length)=Q07 s p+(Q1f p0).length+1:=by rw[Q4v h2];exact h3.skip0 hc2
  obtain ⟨h5,h6⟩:=h3.byte
  obtain ⟨h7,h8⟩:=h6.byte
  have hst:Q07 s (Q07 s p+(Q1f p0).length+1+1)=Q07 s p+(Q1f p0).length+1+1+1:=by
   rw[Q4v h7]
   obtain ⟨hf1,hf2⟩:=Qdw (hr q (by simp)).1 (hr q (by simp)).2 hn hm
   obtain ⟨x,y,hx,hx32⟩:∃x y,Q1f q++(Q0l false r++u)=x::y/\x≠32:=by
    unfold Q1f
    cases hpt:Q2v q with
    |nil=>exact absurd hpt hf2
    |cons t ts=>
     rw[hpt] at hf1
     cases hte:Qga q with
     |nil=>rw[hte] at hf1;exact hf1.elim
     |cons z zs=>
      rw[hte] at hf1
      obtain ⟨x,y,hx,hx32⟩:=hf1.1.1
      subst hx
      cases ts with
      |nil=>exact ⟨x,_,rfl,hx32⟩
      |cons a b=>exact ⟨x,_,rfl,hx32⟩
   rw[hx] at h8
   exact h8.skip0 hx32
  have hlen:=Q0k h5 (by rcases hcc with ⟨rfl,_⟩|⟨rfl,_⟩ <;> decide)
  have hl2:r.length<f:=by simp only[List.length_cons] at hl;omega
  have hple:Q07 s p+(Q1f p0).length+1+1<=s.length:=hlen
  have ih:=fun (b:Bool) (acc':List (Bool × Ex))=>Qhv hn hm sub opens hu hu1 hu2 r q f (Q07 s p+(Q1f p0).length+1+1) b acc' (fun x hx=>hr x (by simp only[List.mem_cons] at hx⊢;exact .inr hx)) hl2 hple (by rw[hst];exact h8)
  have hfin:Q07 s (Q07 s p+(Q1f p0).length+1+1+1+(Q1f q++Q0l false r).length)=Q07 s (Q07 s p+(Q1f p0++Q0l false (q::r)).length):=by
   congr 1
   simp only[Q0l,hc,List.length_append,List.length_cons,List.length_nil];omega
  unfold Q8x
  rw[ht]
  simp only
  rw[Q76,h4,h5]
  rcases hcc with ⟨rfl,hb⟩|⟨rfl,hb⟩
  ·rw[if_pos rfl,ih,hst,hfin]
   simp[Qs4,hb]
  ·rw[if_neg (by decide),if_pos rfl,ih,hst,hfin]
   simp[Qs4,hb]
 |_,_,0,_,_,_,_,hl,_,_=>by simp at hl
theorem Qox (t:List UInt8):Qce (10::t)/\nb (10::t)=10/\Q6o (10::t)=0:=by
 have hn:nb (10::t)=10:=by simp[nb,Q6o]
 exact ⟨⟨⟨⟨by rw[digN,if_neg];decide,fun x r h=>by injection h with h1 _;rw[<-h1];decide⟩,by rw[hn];decide⟩,by rw[hn];decide⟩,hn,by simp[Q6o]⟩
theorem Qba {n most:Nat} {q:Q0f} (h0:q.1≠0) (h:Qdr n q) (hn:n<=most) (hm:most<=9):∃x y,Q1f q=x::y/\x≠32/\x≠45:=by
 unfold Q1f Q2v
 split
 ·rcases Qm9 q.1 with h1|⟨neg,v,e,ho,h1⟩
  ·exact absurd h1 h0
  ·rw[h1,Qcc ho,Qg9 ho]
   obtain ⟨c,r,hc,hc1,hc2⟩:=Q9z v e
   rw[hc]
   have a1:c≠32:=fun e=>by rw[e] at hc1;exact absurd hc1 (by decide)
   have a2:c≠45:=fun e=>by rw[e] at hc1;exact absurd hc1 (by decide)
   cases Q0z 0 q.2 with
   |nil=>exact ⟨c,r,rfl,a1,a2⟩
   |cons t ts=>exact ⟨c,_,rfl,a1,a2⟩
 ·rename_i hc
  have h1:=Qcd (most:=most) 0 q.2 (by rw[h.2.1];omega) hm (Q2e h.2)
  have hx:∀(i:Nat) (E:List Int) t ts,Q0z i E=t::ts->∃r,t=120::r:=by
   intro i E
   induction E generalizing i with
   |nil=>intro t ts h;cases h
   |cons k r ih=>
    intro t ts h
    simp only[Q0z,Q8l] at h
    split at h
    ·injection h with h _;exact ⟨_,h.symm⟩
    ·split at h
     ·injection h with h _;exact ⟨_,h.symm⟩
     ·exact ih (i+1) t ts h
  cases hp:Q0z 0 q.2 with
  |nil=>exact absurd (.inl hp) hc
  |cons t ts=>
   obtain ⟨r,rfl⟩:=hx 0 q.2 t ts hp
   cases ts with
   |nil=>exact ⟨120,r,rfl,by decide,by decide⟩
   |cons a b=>exact ⟨120,_,rfl,by decide,by decide⟩
theorem Qmd {n most:Nat} (hn:n<=most) (hm:most<=9) {s:List UInt8} (sub:Nat->PR Ex) (opens:Bool) {P:List Q0f} (hP:Q6b n P) {p0 p:Nat} (hs0:Q07 s p0=p) (hp:p<=s.length) {t:List UInt8} (h2:At s p (Q4n P++10::t)):
 Q5u sub opens s most p0=.ok (Qdv P,p+(Q4n P).length):=by
 obtain ⟨he1,he2,he3⟩:=Qox t
 cases P with
 |nil=>
  have h2':At s p (Q28 false 0 0++10::t):=by
   have e:Q28 false 0 0=[48]:=by simp[Q28,Q8h,Q1n]
   rw[e];exact h2
  have e:(Q28 false 0 0).length=1:=by simp[Q28,Q8h,Q1n]
  have hfr:=Qqj most (v:=0) (e:=0) (by decide) (by decide) (by decide) (fun _=>rfl) (by exact Qdq)
  have h3:=Qa0 sub opens he1.1 he1.2 [Q28 false 0 0] [.num (some 0)] (s.length+1) p [] (by simp) ⟨hfr,trivial⟩ (by simp) (by rw[h2.skip0 (by decide)];exact h2')
  rw[h2.skip0 (by decide)] at h3
  have h4:At s (p+1) (10::t):=by have:=At.app h2';rwa[e] at this
  have h5:=h4.skip0 (by decide)
  simp only[Q1x,e,h5,List.nil_append] at h3
  unfold Q5u
  rw[hs0,h2.byte.1,if_neg (by decide),Q8x,h3]
  simp only
  rw[h5,h4.byte.1,if_neg (by decide),if_neg (by decide)]
  rfl
 |cons q r=>
  have hq:=hP.2.2 q (by simp)
  obtain ⟨x,y,hx,hx32,hx45⟩:=Qba hq.1 hq.2 hn hm
  have hlen:=h2.len hp
  have hrl:r.length<s.length+1:=by
   have:∀(l:List Q0f),l.length<=(Q0l false l).length:=fun l=>by
    induction l with
    |nil=>simp
    |cons a l ih=>
     have:1<=(Q2d false a).length:=by unfold Q2d;rw[if_neg (by decide)];split <;> simp
     simp only[Q0l,List.length_append,List.length_cons];omega
   have h9:=this r
   simp only[Q4n,Q0l,List.length_append,List.length_cons,reduceCtorEq,if_false] at hlen
   omega
  have hst:=fun (b:Bool) (f':Nat) (h:At s (Q07 s f') (Q1f q++(Q0l false r++10::t))) (hf:f'<=s.length)=>Qhv hn hm sub opens he1 (by rw[he2];decide) (by rw[he2];decide) r q (s.length+1) f' b [] hP.2.2 hrl hf h
  have hpt:Q4n (q::r)=Q2d true q++(Q1f q++Q0l false r):=by simp[Q4n,Q0l]
  rw[hpt] at h2⊢
  have hlast:∀p',At s p' (Q1f q++(Q0l false r++10::t))->Q07 s (p'+(Q1f q++Q0l false r).length)=p'+(Q1f q++Q0l false r).length:=fun p' h=>by
   have h':At s p' ((Q1f q++Q0l false r)++10::t):=by rw[List.append_assoc];exact h
   exact (At.app h').skip0 (by decide)
  cases hbl:Q4c q.1
  ·have hsg:Q2d true q=[]:=by simp[Q2d,hbl]
   rw[hsg,List.nil_append] at h2
   rw[hsg,List.nil_append]
   have h2':At s p (Q1f q++(Q0l false r++10::t)):=by rw[<-List.append_assoc];exact h2
   have h3:At s p (x::(y++(Q0l false r++10::t))):=by rw[hx] at h2';exact h2'
   have hs1:=h3.skip0 hx32
   unfold Q5u
   rw[hs0,h3.byte.1,if_neg hx45,hst false p (by rw[hs1];exact h2') (by omega),hs1,hlast _ h2']
   simp[Qdv,Qs4,hbl]
  ·have hsg:Q2d true q=[45]:=by simp[Q2d,hbl]
   rw[hsg] at h2⊢
   have h2'':At s p (45::(Q1f q++(Q0l false r++10::t))):=by simpa using h2
   obtain ⟨h6,h2'⟩:=h2''.byte
   have hlt:=Q0k h6 (by decide)
   have h3:At s (p+1) (x::(y++(Q0l false r++10::t))):=by rw[hx] at h2';exact h2'
   have hs1:=h3.skip0 hx32
   unfold Q5u
   rw[hs0,h6,if_pos rfl,hst true (p+1) (by rw[hs1];exact h2') (by omega),hs1,hlast _ h2']
   simp only[Qdv,Qs4,hbl,List.nil_append,List.map_cons,reduceCtorEq,if_false,List.length_append,List.length_cons,List.length_nil]
   congr 2
   omega
theorem Qoy:Q7o 1:=(Q2c 1).1 (by decide)
theorem Qse:(1:Dyadic)≠0:=by decide
def Qhw (n i:Nat) (k:Int):List Int:=(List.replicate n 0).set i k
theorem Qme (n:Nat):(List.replicate n (0:Int)).sum=0:=by
 induction n with
 |zero=>rfl
 |succ n ih=>rw[List.replicate_succ,List.sum_cons,ih];rfl
theorem Qdy:∀(n i:Nat) (k:Int),i<n->(Qhw n i k).sum=k
 |n+1,0,k,_=>by simp[Qhw,List.replicate_succ]
 |n+1,i+1,k,h=>by
  have:=Qdy n i k (by omega)
  unfold Qhw at*
  rw[List.replicate_succ,List.set_cons_succ,List.sum_cons,this];omega
theorem Qhx {E:List Int} (h:∀x∈E,0<=x) (i:Nat):0<=(E.take i).sum/\(E.take i).sum<=E.sum:=by
 have h1:=(Q65 (E:=E.take i) (fun x hx=>h x (List.mem_of_mem_take hx))).1
 have h2:=(Q65 (E:=E.drop i) (fun x hx=>h x (List.mem_of_mem_drop hx))).1
 have h3:E.sum=(E.take i).sum+(E.drop i).sum:=by
  conv=>lhs;rw[<-List.take_append_drop i E]
  rw[List.sum_append]
 omega
theorem Q66 (i:Nat) (hi:i<9):(Q32 i).length=6:=by rw[Q32,Q5d (by omega)];rfl
theorem Qmf {n most i:Nat} (hn:n<=most) (hm:most<=9) {s:List UInt8} {P:List Q0f} (hP:Q6b n P) {p:Nat} {t:List UInt8} (ha:At s p (Q4o i P++t)) (hp:p<=s.length):Qcb s most i p=.ok (Qdv P,p+(Q4o i P).length):=by
 have h1:At s p (Q32 i++(Q4n P++10::t)):=by simpa[Q4o] using ha
 have h2:=At.fixed h1
 have h3:=At.app h1
 have hlen:=h1.len hp
 rw[List.length_append] at hlen
 have hs0:Q07 s (p+(Q32 i).length)=p+(Q32 i).length:=by
  cases P with
  |nil=>exact At.skip0 (t:=10::t) h3 (by decide)
  |cons q r=>
   have hq:=hP.2.2 q (by simp)
   obtain ⟨x,y,hx,hx32,hx45⟩:=Qba (most:=most) hq.1 hq.2 hn hm
   cases hb:Q4c q.1
   ·have e:Q4n (q::r)=x::(y++Q0l false r):=by simp[Q4n,Q0l,Q2d,hb,hx]
    rw[e] at h3
    exact At.skip0 (t:=(y++Q0l false r)++10::t) h3 hx32
   ·have e:Q4n (q::r)=45::(Q1f q++Q0l false r):=by simp[Q4n,Q0l,Q2d,hb]
    rw[e] at h3
    exact At.skip0 (t:=(Q1f q++Q0l false r)++10::t) h3 (by decide)
 have h4:=Qmd hn hm (Q69 s most 15) true hP hs0 (by omega) h3
 have h5:=At.app h3
 have h6:=h5.skip0 (by decide)
 unfold Qcb
 rw[h2]
 simp only
 rw[show Q69 s most 16=Q5u (Q69 s most 15) true s most from rfl,h4]
 simp only
 rw[h6,if_pos h5.byte.1]
 congr 2
 simp only[Q4o,List.length_append,List.length_cons,List.length_nil];omega
theorem Qjh {n most:Nat} (hn:n<=most) (hm:most<=9) {s:List UInt8}:∀(F:List (List Q0f)) (f p:Nat) (acc:List (Nat × Ex)),F≠[]->F.length<=f->(∀P∈F,Q6b n P)->p<=s.length->At s p (Q19 acc.length F)->
 ∃ls:List (Nat × Ex),Q3p s most f p acc=.ok (acc++ls)/\ls.map (·.2)=F.map Qdv
 |[],_,_,_,h,_,_,_,_=>absurd rfl h
 |P::F,f+1,p,acc,_,hf,hr,hp,ha=>by
  have h1:=Qmf hn hm (hr P (by simp)) (t:=Q19 (acc.length+1) F) ha hp
  have h2:=At.app (t:=Q4o acc.length P) ha
  have hlen0:=At.len (t:=Q4o acc.length P++Q19 (acc.length+1) F) ha hp
  rw[List.length_append] at hlen0
  have hple:p+(Q4o acc.length P).length<=s.length:=by omega
  have hlen:=h2.len hple
  unfold Q3p
  rw[h1]
  simp only
  cases F with
  |nil=>
   simp only[Q19,List.length_nil] at hlen
   rw[if_neg (by omega)]
   exact ⟨[(p,Qdv P)],rfl,rfl⟩
  |cons Q F=>
   have hpos:0<(Q19 (acc.length+1) (Q::F)).length:=by
    simp only[Q19,Q4o,Q32,List.length_append,List.length_cons];omega
   rw[if_pos (by omega)]
   obtain ⟨ls,h3,h4⟩:=Qjh hn hm (Q::F) f (p+(Q4o acc.length P).length) (acc++[(p,Qdv P)]) (by simp) (by simpa using hf) (fun x hx=>hr x (by simp only[List.mem_cons] at hx⊢;exact .inr hx)) hple (by rw[List.length_append];exact h2)
   refine ⟨(p,Qdv P)::ls,?_,by simp[h4]⟩
   rw[h3,List.append_assoc];rfl
 |_::_,0,_,_,_,h,_,_,_=>by simp at h
theorem Q4y (n:Nat):(dec n).count 10=0:=by
 rw[List.count_eq_zero]
 intro h
 have:=Q4i n 10 h
 exact absurd this (by decide)
theorem Qgb (neg:Bool) (v:Nat) (e:Int):(Q28 neg v e).count 10=0:=by
 unfold Q28 Q8h
 have h1:=Q4y v
 have h2:=Q4y e.natAbs
 have h3:(if e<0 then 45::dec e.natAbs else dec e.natAbs).count 10=0:=by split <;> simp[h2]
 have h4:(if e=0 then [] else 112::(if e<0 then 45::dec e.natAbs else dec e.natAbs)).count 10=0:=by
  split
  ·rfl
  ·rw[List.count_cons,h3];rfl
 rw[List.count_append,List.count_append,h1,h4]
 cases neg <;> rfl
theorem Qmg (d:Dyadic):(dyT d).count 10=0:=by
 cases d with
 |zero=>decide
 |ofOdd n k h=>exact Qgb _ _ _
theorem Q6p:∀(i:Nat) (E:List Int),∀t∈Q0z i E,t.count 10=0
 |_,[],_,h=>by cases h
 |i,k::r,t,h=>by
  have h1:=Q4y (i+1)
  have h2:=Q4y k.toNat
  rw[Q0z] at h
  rcases List.mem_append.1 h with h|h
  ·unfold Q8l at h
   split at h
   ·rw[List.mem_singleton] at h;subst h
    rw[List.count_cons,h1];rfl
   ·split at h
    ·rw[List.mem_singleton] at h;subst h
     rw[List.count_cons,List.count_append,List.count_cons,h1,h2];rfl
    ·cases h
  ·exact Q6p (i+1) r t h
theorem Qa1:∀(l:List (List UInt8)),(∀t∈l,t.count 10=0)->(Q1x l).count 10=0
 |[],_=>rfl
 |[x],h=>h x (by simp)
 |x::y::r,h=>by
  have h1:=h x (by simp)
  have ih:=Qa1 (y::r) (fun t ht=>h t (by simp only[List.mem_cons] at ht⊢;exact .inr ht))
  rw[Q1x,List.count_append,List.count_cons,h1,ih];rfl
theorem Qgc (p:Q0f):(Q1f p).count 10=0:=by
 refine Qa1 _ fun t ht=>?_
 unfold Q2v at ht
 split at ht
 ·rcases List.mem_cons.1 ht with rfl|ht
  ·exact Qmg _
  ·exact Q6p _ _ t ht
 ·exact Q6p _ _ t ht
theorem Q8m:∀(b:Bool) (l:List Q0f),(Q0l b l).count 10=0
 |_,[]=>rfl
 |b,p::r=>by
  have h1:(Q2d b p).count 10=0:=by unfold Q2d;split <;> split <;> decide
  rw[Q0l,List.count_append,List.count_append,h1,Qgc,Q8m false r]
theorem Qoz (P:List Q0f):(Q4n P).count 10=0:=by
 unfold Q4n
 split
 ·decide
 ·exact Q8m _ _
theorem Qp0 (i:Nat) (P:List Q0f):(Q4o i P).count 10=1:=by
 rw[Q4o,Q32,List.count_append,List.count_cons,List.count_append,List.count_append,Qoz,Q4y];rfl
theorem Qdz:∀(i:Nat) (F:List (List Q0f)),(Q19 i F).count 10=F.length
 |_,[]=>rfl
 |i,P::F=>by rw[Q19,List.count_append,Qp0,Qdz (i+1) F,List.length_cons];omega
end Go.Proofs.YtdilmfakkppgpaaGreatDoor
namespace Go.Proofs.YtdilmfakkppgpaaGreatDoor
open Go.RowKit WordsM
def RdZ (w:World) (B:Nat) (a:Option Addr) (E:List Int):Prop:=
 E=[]∨∃b o,a=some ⟨b,o,none⟩/\b<B/\∀(j:Nat) x,E[j]?=some x->w.cell? ⟨b,o+j,none⟩=some (.int .i64 x)
section
variable {w w':World} {B B':Nat} {a:Option Addr} {E:List Int}
theorem RdZ.keep (h:RdZ w B a E) (hk:∀p:Addr,p.block<B->w'.cell? p=w.cell? p):RdZ w' B a E:=by
 rcases h with rfl|⟨b,o,rfl,hb,hc⟩
 ·exact .inl rfl
 ·exact .inr ⟨b,o,rfl,hb,fun j x hx=>(hk _ hb).trans (hc j x hx)⟩
theorem RdZ.more (h:RdZ w B a E) (hB:B<=B'):RdZ w B' a E:=by
 rcases h with rfl|⟨b,o,rfl,hb,hc⟩
 ·exact .inl rfl
 ·exact .inr ⟨b,o,rfl,by omega,hc⟩
theorem RdZ.below (h:RdZ w B a E) (hb:Below B w w'):RdZ w' B a E:=h.keep fun _ hp=>hb.cell hp
theorem RdZ.at_ {k:Nat} {x:Int} (h:RdZ w B a E) (hx:E[k]?=some x):∃b o,a=some ⟨b,o,none⟩/\b<B/\w.cell? ⟨b,o+k,none⟩=some (.int .i64 x):=by
 rcases h with rfl|⟨b,o,rfl,hb,hc⟩
 ·simp at hx
 ·exact ⟨b,o,rfl,hb,hc k x hx⟩
end
structure Q0i (w:World) (a:Option Addr) (n c:Nat) (E:List Int):Prop where
 len:E.length=n
 cap:n<=c
 most:c<=9223372036854775807
 rng:∀x∈E,-9223372036854775808<=x/\x<=9223372036854775807
 rd:RdZ w w.heap.size a E
theorem Q0i.step {w w':World} {a:Option Addr} {n c:Nat} {E:List Int} (h:Q0i w a n c E) (hb:Below w.heap.size w w'):Q0i w' a n c E:=⟨h.len,h.cap,h.most,h.rng,(h.rd.below hb).more hb.size⟩
structure Q2i (w:World) (b:Nat) (v0 v1 v2 v3:Value):Prop where
 c0:w.cell? ⟨b,0,none⟩=some v0
 c1:w.cell? ⟨b,1,none⟩=some v1
 c2:w.cell? ⟨b,2,none⟩=some v2
 c3:w.cell? ⟨b,3,none⟩=some v3
 f0:w.frozen? ⟨b,0,none⟩=false
 f1:w.frozen? ⟨b,1,none⟩=false
 f2:w.frozen? ⟨b,2,none⟩=false
 f3:w.frozen? ⟨b,3,none⟩=false
theorem Q2i.new (w:World) (v0 v1 v2 v3:Value) (T:TypeId):Q2i (w.alloc (.cells #[v0,v1,v2,v3] T)) w.heap.size v0 v1 v2 v3:=
 ⟨by rw[cell_of_row _ _ _ _ _ _ (heap_alloc_new _ _)];rfl,by rw[cell_of_row _ _ _ _ _ _ (heap_alloc_new _ _)];rfl,by rw[cell_of_row _ _ _ _ _ _ (heap_alloc_new _ _)];rfl,by rw[cell_of_row _ _ _ _ _ _ (heap_alloc_new _ _)];rfl,
   frozen_of_row _ _ _ _ _ (heap_alloc_new _ _),frozen_of_row _ _ _ _ _ (heap_alloc_new _ _),frozen_of_row _ _ _ _ _ (heap_alloc_new _ _),frozen_of_row _ _ _ _ _ (heap_alloc_new _ _)⟩
theorem Q2i.step {w w':World} {b B:Nat} {v0 v1 v2 v3:Value} (h:Q2i w b v0 v1 v2 v3) (hb:Below B w w') (hB:b<B):Q2i w' b v0 v1 v2 v3:=
 ⟨(hb.cell (p:=⟨b,0,none⟩) hB).trans h.c0,(hb.cell (p:=⟨b,1,none⟩) hB).trans h.c1,(hb.cell (p:=⟨b,2,none⟩) hB).trans h.c2,(hb.cell (p:=⟨b,3,none⟩) hB).trans h.c3,(hb.frozen (p:=⟨b,0,none⟩) hB).trans h.f0,(hb.frozen (p:=⟨b,1,none⟩) hB).trans h.f1,(hb.frozen (p:=⟨b,2,none⟩) hB).trans h.f2,(hb.frozen (p:=⟨b,3,none⟩) hB).trans h.f3⟩
theorem Q9a {E:List Int} {i:Nat} {x:Int} (h:E[i]?=some x):(E.take (i+1)).sum=(E.take i).sum+x:=by
 rw[List.take_add_one,h,List.sum_append];simp
theorem Qa2 {E:List Int} {i:Nat} {x:Int} (h:x∈E.take i):∃j,j<i/\E[j]?=some x:=by
 obtain ⟨j,hj⟩:=List.mem_iff_getElem?.1 h
 rw[List.getElem?_take] at hj
 split at hj
 ·exact ⟨j,by assumption,hj⟩
 ·cases hj
theorem Qhy (n:Bool) (e:Int) (a:Option Addr) (l c:Nat) (L:List Nat) (b:Option Addr) (m d:Nat) (E:List Int) (k:Nat) (w:World) (h:WordsIn w a l c L) (hE:Q0i w b m d E) (hk:k<=9223372036854775807) (he: -9223372036854775808<=e) (he2:e<=9223372036854775807):
 Calls Tryz.prog 87 #[.agg #[.bool n,.int .i64 e,.slice a l c,.slice b m d],.int .i64 (k:Int)] w fun r w'=>r=.returned (.bool (decide (Q0v k E/\Q0g n e L)))/\Below w.heap.size w w':=by
 obtain ⟨rs,hrs⟩:∃rs,decide (Q0v k E/\Q0g n e L)=rs:=⟨_,rfl⟩
 rw[hrs]
 have HRS:=Lib.hid hrs
 clear hrs
 have hb1:Below w.heap.size w (w.alloc (.cells #[.bool n,.int .i64 e,.slice a l c,.slice b m d] 44)):=(Below.refl _ _).alloc (Nat.le_refl _) _
 have hX:=Q2i.new w (.bool n) (.int .i64 e) (.slice a l c) (.slice b m d) 44
 have hlt:=Q0h w (.cells #[.bool n,.int .i64 e,.slice a l c,.slice b m d] 44)
 generalize hW:w.alloc (.cells #[.bool n,.int .i64 e,.slice a l c,.slice b m d] 44)=W at hb1 hX hlt
 have hx0:=hX.c0
 have hx1:=hX.c1
 have hx2:=hX.c2
 have hx3:=hX.c3
 have hln:=hE.len
 subst hln
 have hrt:=Q2b n e a l c L W (h.step hb1) he he2 (by have:=h.cap;have:=h.most;omega)
 have hrd:=hE.rd.below hb1
 have hcm:=Nat.le_trans hE.cap hE.most
 have HC:=Xh4 hrt hrd hb1 hE.rng
 clear hb1 hX hlt hrt hrd h hE
 go_enter Tryz.func87,Tryz.ntmps87
 go_wp2_with fail
 go_loopw [5,11] (fun lv iv wr=>∃(i:Nat) (s:Int),lv=.int .i64 (8-s)/\iv=.int .i64 (i:Int)/\i<=E.length/\(E.take i).sum=s/\0<=s/\s<=8/\(∀x∈E.take i,0<=x)/\W=wr) (fun _ iv _=>E.length-(intOf iv).toNat)
 case atStart=>exact ⟨0,0,rfl,rfl,Nat.zero_le _,by simp,by decide,by decide,by simp,rfl⟩
 case round=>
  obtain ⟨i,s,rfl,rfl,hi,hs,hs0,hs8,hpos,rfl⟩:=hrel
  by_cases hlt:i<E.length
  ·have hlt':(i:Int)<(E.length:Int):=by omega
   obtain ⟨x,hx⟩:∃x,E[i]?=some x:=⟨_,List.getElem?_eq_getElem hlt⟩
   obtain ⟨ba,oa,hae,hba,hcx⟩:=(Xo1 HC).at_ hx
   subst hae
   have hxr:=(Xe3 HC) x (List.mem_of_getElem? hx)
   have hsn:=Q9a hx
   have HS:=Xh4 hs hsn hpos hx
   clear hs hsn hpos hx
   by_cases hx0':x<0
   ·go_wp2_with fail
    go_ret
    have hno:¬(Q0v k E/\Q0g n e L):=fun h=>by
     have:=h.1.2.1 x (List.mem_of_getElem? (Xe3 HS))
     omega
    have hf:rs=false:=by rw[<-HRS.out];exact decide_eq_false hno
    exact ⟨by rw[hf];rfl,(Xo2 HC)⟩
   ·by_cases hx8:8-s<x
    ·go_wp2_with fail
     go_ret
     have hno:¬(Q0v k E/\Q0g n e L):=fun h=>by
      have h1:=(Qhx h.1.2.1 (i+1)).2
      have h2:=h.1.2.2
      have h3:=(Xo0 HS)
      have h4:=(Xo1 HS)
      omega
     have hf:rs=false:=by rw[<-HRS.out];exact decide_eq_false hno
     exact ⟨by rw[hf];rfl,(Xo2 HC)⟩
    ·go_wp2_with fail
     refine ⟨⟨i+1,s+x,by simp only[Value.int.injEq,true_and];omega,by simp,by omega,by rw[(Xo1 HS),(Xo0 HS)],by omega,by omega,fun y hy=>?_,trivial⟩,by simp only[intOf];omega⟩
     obtain ⟨j,hj,hjy⟩:=Qa2 hy
     by_cases hji:j=i
     ·subst hji
      have h5:=(Xe3 HS)
      rw[hjy] at h5
      injection h5 with h5
      omega
     ·exact (Xo2 HS) y (List.mem_iff_getElem?.2 ⟨j,by rw[List.getElem?_take,if_pos (by omega)];exact hjy⟩)
  ·obtain rfl:i=E.length:=by omega
   have hlt':¬((E.length:Int)<(E.length:Int)):=by omega
   rw[List.take_length] at hs hpos
   by_cases hk2:E.length=k
   ·subst hk2
    have hre:Q0v E.length E:=⟨rfl,hpos,by omega⟩
    have hee:((E.length:Int)==(E.length:Int))=true:=by simp
    have HS:=Lib.hid hre
    clear hre hs hpos
    go_wp2_with (refine (Xo0 HC).mono ?_;rintro r w1 ⟨rfl,hb1⟩;have HA:=Lib.hid hb1;clear hb1)
    go_ret
    refine ⟨?_,Below.next0 (Xo2 HC) HA.out⟩
    have hiff:(Q0v E.length E/\Q0g n e L)↔Q0g n e L:=⟨fun h=>h.2,fun h=>⟨HS.out,h⟩⟩
    have hf:rs=decide (Q0g n e L):=by rw[<-HRS.out];exact decide_eq_decide.2 hiff
    rw[hf];rfl
   ·have hke:((E.length:Int)==(k:Int))=false:=by rw[beq_eq_false_iff_ne];omega
    have HS:=Lib.hid hk2
    clear hs hpos hk2
    go_wp2_with fail
    go_ret
    have hno:¬(Q0v k E/\Q0g n e L):=fun h=>HS.out h.1.1
    have hf:rs=false:=by rw[<-HRS.out];exact decide_eq_false hno
    exact ⟨by rw[hf];rfl,(Xo2 HC)⟩
theorem Qhz {E F:List Int} {i:Nat} {x y:Int} (hx:E[i]?=some x) (hy:F[i]?=some y):Q25 (E.drop i) (F.drop i)=if x<y then -1 else if y<x then 1 else Q25 (E.drop (i+1)) (F.drop (i+1)):=by
 rw[Q58 E i x hx,Q58 F i y hy]
 rfl
theorem Qa3 (a:Option Addr) (n c:Nat) (E:List Int) (b:Option Addr) (m d:Nat) (F:List Int) (w:World) (h1:Q0i w a n c E) (h2:Q0i w b m d F):
 Calls Tryz.prog 142 #[.slice a n c,.slice b m d] w fun r w'=>r=.returned (.int .i64 (Q25 E F))/\w'=w:=by
 have hl1:=h1.len
 have hl2:=h2.len
 subst hl1
 subst hl2
 have hc1:=Nat.le_trans h1.cap h1.most
 have hc2:=Nat.le_trans h2.cap h2.most
 have hcm:=fun x y W=>Tryz.Qu9 x y W
 have HC:=Xh5 h1.rd h2.rd h1.rng h2.rng hcm
 clear h1 h2 hcm
 obtain ⟨V,hV⟩:∃V,Q25 E F=V:=⟨_,rfl⟩
 rw[hV]
 have HV:=Lib.hid hV
 clear hV
 go_enter Tryz.func142,Tryz.ntmps142
 go_wp2_with fail
 go_loopw [11] (fun iv wr=>∃i:Nat,iv=.int .i64 (i:Int)/\i<=E.length/\i<=F.length/\Q25 (E.drop i) (F.drop i)=V/\w=wr) (fun iv _=>E.length-(intOf iv).toNat)
 case atStart=>exact ⟨0,rfl,Nat.zero_le _,Nat.zero_le _,HV.out,rfl⟩
 case round=>
  obtain ⟨i,rfl,hi,hi2,hcmp,rfl⟩:=hrel
  by_cases hlt:i<E.length
  ·have hlt':(i:Int)<(E.length:Int):=by omega
   obtain ⟨x,hx⟩:∃x,E[i]?=some x:=⟨_,List.getElem?_eq_getElem hlt⟩
   obtain ⟨ba,oa,hae,hba,hcx⟩:=(Xo0 HC).at_ hx
   subst hae
   by_cases hlt2:i<F.length
   ·have hlt2':¬(F.length:Int)<=(i:Int):=by omega
    obtain ⟨y,hy⟩:∃y,F[i]?=some y:=⟨_,List.getElem?_eq_getElem hlt2⟩
    obtain ⟨bb,ob,hbe,hbb,hcy⟩:=(Xo1 HC).at_ hy
    subst hbe
    have hcd:=Qhz hx hy
    rw[hcmp] at hcd
    have hxr:=(Xo2 HC) x (List.mem_of_getElem? hx)
    have hyr:=(Xo3 HC) y (List.mem_of_getElem? hy)
    obtain ⟨v,hv⟩:∃v,Lib.compareInt x y=v:=⟨_,rfl⟩
    have hcc:=(Xe4 HC) x y w
    rw[hv] at hcc
    have hvv:v=if x<y then -1 else if y<x then 1 else 0:=by rw[<-hv];rfl
    have HH:=Xh3 hcc hvv hcd
    clear hcc hvv hcd hv hx hy hcmp
    by_cases hv0:v=0
    ·subst hv0
     have hxy:¬x<y/\¬y<x:=by
      have h3:=(Xo1 HH)
      constructor
      ·intro h;rw[if_pos h] at h3;omega
      ·intro h;rw[if_neg (by omega),if_pos h] at h3;omega
     have HX:=Lib.hid hxy
     clear hxy
     go_wp2_with (refine (Xo0 HH).mono ?_;rintro r w1 ⟨rfl,rfl⟩)
     refine ⟨⟨i+1,by simp,by omega,by omega,?_,trivial⟩,by simp only[intOf];omega⟩
     have h4:=(Xe2 HH)
     rw[if_neg (Int.not_lt.2 (Xo0 HX)),if_neg (Int.not_lt.2 (Xe1 HX))] at h4
     exact h4.symm
    ·have hvb:(v==0)=false:=by rw[beq_eq_false_iff_ne];exact hv0
     have hVv:V=v:=by
      have h3:=(Xo1 HH)
      have h4:=(Xe2 HH)
      by_cases q1:x<y
      ·rw[if_pos q1] at h3 h4;omega
      ·rw[if_neg q1] at h3 h4
       by_cases q2:y<x
       ·rw[if_pos q2] at h3 h4;omega
       ·rw[if_neg q2] at h3;exact absurd h3 hv0
     have HVV:=Lib.hid hVv
     clear hVv
     go_wp2_with (refine (Xo0 HH).mono ?_;rintro r w1 ⟨rfl,rfl⟩)
     go_ret
     exact ⟨by rw[HVV.out];rfl,rfl⟩
   ·have hlt2':(F.length:Int)<=(i:Int):=by omega
    have hV1:V=1:=by
     rw[<-hcmp,Q58 E i x hx,List.drop_of_length_le (l:=F) (show F.length<=i by omega)];rfl
    subst hV1
    clear hcmp hx
    go_wp2_with fail
    go_ret
    exact ⟨rfl,rfl⟩
  ·obtain rfl:i=E.length:=by omega
   have hlt':¬((E.length:Int)<(E.length:Int)):=by omega
   rw[List.drop_of_length_le (Nat.le_refl _)] at hcmp
   by_cases hlt2:E.length<F.length
   ·have hlt2':(E.length:Int)<(F.length:Int):=by omega
    obtain ⟨y,hy⟩:∃y,F[E.length]?=some y:=⟨_,List.getElem?_eq_getElem hlt2⟩
    have hV1:V= -1:=by rw[<-hcmp,Q58 F _ y hy];rfl
    subst hV1
    clear hcmp hy
    go_wp2_with fail
    go_ret
    exact ⟨rfl,rfl⟩
   ·have hlt2':¬(E.length:Int)<(F.length:Int):=by omega
    have hV1:V=0:=by rw[<-hcmp,List.drop_of_length_le (by omega)];rfl
    subst hV1
    clear hcmp
    go_wp2_with fail
    go_ret
    exact ⟨rfl,rfl⟩
theorem Qmh (u0 u1 u2:Value) (a:Option Addr) (n c:Nat) (E:List Int) (v0 v1 v2:Value) (b:Option Addr) (m d:Nat) (F:List Int) (w:World) (h1:Q0i w a n c E) (h2:Q0i w b m d F):
 Calls Tryz.prog 88 #[.agg #[u0,u1,u2,.slice a n c],.agg #[v0,v1,v2,.slice b m d]] w fun r w'=>r=.returned (.int .i64 (Q25 F E))/\Below w.heap.size w w':=by
 have hb1:Below w.heap.size w (w.alloc (.cells #[u0,u1,u2,.slice a n c] 44)):=(Below.refl _ _).alloc (Nat.le_refl _) _
 have hs1:(w.alloc (.cells #[u0,u1,u2,.slice a n c] 44)).heap.size=w.heap.size+1:=World.size_alloc _ _
 have hb2:Below (w.alloc (.cells #[u0,u1,u2,.slice a n c] 44)).heap.size (w.alloc (.cells #[u0,u1,u2,.slice a n c] 44)) ((w.alloc (.cells #[u0,u1,u2,.slice a n c] 44)).alloc (.cells #[v0,v1,v2,.slice b m d] 44)):=(Below.refl _ _).alloc (Nat.le_refl _) _
 have hX:=(Q2i.new w u0 u1 u2 (.slice a n c) 44).step hb2 (Q0h _ _)
 have hY:=Q2i.new (w.alloc (.cells #[u0,u1,u2,.slice a n c] 44)) v0 v1 v2 (.slice b m d) 44
 rw[hs1] at hY
 have hB:=Below.next0 hb1 hb2
 generalize hW:(w.alloc (.cells #[u0,u1,u2,.slice a n c] 44)).alloc (.cells #[v0,v1,v2,.slice b m d] 44)=W at hX hY hB
 have hx3:=hX.c3
 have hy3:=hY.c3
 have hcm:=Qa3 b m d F a n c E W (h2.step hB) (h1.step hB)
 have HC:=Xh2 hcm hB
 clear hb1 hs1 hb2 hX hY hB hcm h1 h2
 go_enter Tryz.func88,Tryz.ntmps88
 go_wp2_with (refine (Xo0 HC).mono ?_;rintro r w1 ⟨rfl,rfl⟩)
 go_ret
 exact ⟨rfl,(Xe1 HC)⟩
end Go.Proofs.YtdilmfakkppgpaaGreatDoor
