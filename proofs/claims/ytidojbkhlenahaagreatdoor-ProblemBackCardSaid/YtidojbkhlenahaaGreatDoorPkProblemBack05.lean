/- Part 5. No condition. -/
import Derived.Laws.Bits64b
import Derived.Test.YtidojbkhlenahaaGreatDoorPkProblemBack04
set_option maxRecDepth 100000
set_option maxHeartbeats 16000000
namespace Go.Proofs.YtidojbkhlenahaaGreatDoor
open Go.RowKit WordsM DecM
def Qxo (i:Nat) (k:Int):List Ex:=if k=1 then [.var i] else if 1<k then [.pow (.var i) k.toNat] else []
def Qcy:Nat->List Int->List Ex
 |_,[]=>[]
 |i,k::r=>Qxo i k++Qcy (i+1) r
def Qcz (p:Q0b):List Ex:=if Q2p 0 p.2=[]∨Qby p.1≠1 then .num (some (Qby p.1))::Qcy 0 p.2 else Qcy 0 p.2
def Qs8 (p:Q0b):Bool × Ex:=(Q2a p.1,.prod (Qcz p))
def Qbo (P:List Q0b):Ex:=if P=[] then .sum [(false,.prod [.num (some 0)])] else .sum (P.map Qs8)
theorem Qgn {most:Nat}:∀(i:Nat) (E:List Int),i+E.length<=most->most<=9->(∀x∈E,0<=x/\x<=8)->FRs most (Q2p i E) (Qcy i E)
 |_,[],_,_,_=>trivial
 |i,k::r,h,hm,hk=>by
  have ih:=Qgn (i+1) r (by simp only[Ur] at h;omega) hm (fun x hx=>hk x (by simp[hx]));have X2:=hk k (by simp);refine Qs7 ?_ ih;simp only[Ur] at h;unfold Qi8 Qxo
  split
  ·exact ⟨J03 (by omega) (by omega),trivial⟩
  ·split
   ·exact ⟨J04 (by omega) (by omega) (by omega),trivial⟩
   ·trivial
theorem Q84:∀{E:List Int},(∀x∈E,0<=x)->0<=E.sum/\∀x∈E,x<=E.sum
 |[],_=>⟨by simp,fun x hx=>by cases hx⟩
 |a::E,h=>by
  obtain ⟨h1,h2⟩:=Q84 (E:=E) (fun x hx=>h x (by simp[hx]));have h3:=h a (by simp);rw[Xax];refine ⟨by omega,fun x hx=>?_⟩;rcases Uy.1 hx with rfl|hx
  ·omega
  ·have:=h2 x hx;omega
theorem Q2g {n:Nat} {E:List Int} (h:Q0x n E):∀x∈E,0<=x/\x<=8:=fun x hx=>by
 have h1:=(Q84 h.2.1).2 x hx;have h2:=h.2.1 x hx;have h3:=h.2.2;omega
theorem J05 (most:Nat) {d:Dyadic} (h0:d≠0) (hf:Q44 d):FR most (dyT (Qby d)) (.num (some (Qby d))):=by
 rcases Qle d with rfl|⟨neg,v,e,ho,rfl⟩
 ·exact absurd rfl h0
 ·rw[Qgm ho];rw[Qcu ho];obtain ⟨h1,h2,h3⟩:=(Q5t (neg:=neg) ho).1 hf;exact Qxn most h2 h3 h1 (fun h=>by omega) ((Q5t (neg:=false) ho).2 ⟨h1,h2,h3⟩)
theorem Qia {n most:Nat} {p:Q0b} (h0:p.1≠0) (h:Qf9 n p) (hn:n<=most) (hm:most<=9):FRs most (Q41 p) (Qcz p)/\Q41 p≠[]:=by
 have h1:=Qgn (most:=most) 0 p.2 (by rw[h.2.1];omega) hm (Q2g h.2);unfold Q41 Qcz
 split
 ·exact ⟨⟨J05 most h0 h.1,h1⟩,by simp⟩
 ·rename_i hc;exact ⟨h1,fun e=>hc (.inl e)⟩
theorem Qs9 {most:Nat}:∀{ts:List (LU)} {xs:List Ex},FRs most ts xs->ts.length<=(Q50 ts).length
 |[],_,_=>by simp
 |[t],[x],h=>by
  obtain ⟨c,r,hc,_⟩:=h.1.1;simp only[Q50,hc,Ur,TW];omega
 |t::t'::ts,x::xs,h=>by
  have ih:=Qs9 h.2;simp only[Q50,Uh,Ur] at ih⊢;omega
 |[_],[],h=>h.elim
 |_::_::_,[],h=>h.elim
 |[_],_::_::_,h=>h.2.elim
def Qgo (u:LU):Prop:=Qni u/\nb u≠42
theorem Qib {n most:Nat} {p0:Q0b} (h0:p0.1≠0) (h:Qf9 n p0) (hn:n<=most) (hm:most<=9) {s:LU} (sub:Nat->PR Ex) (opens:Bool) {u:LU} (hu:Qgo u) {p:Nat} (hp:p<=s.length) (ha:At s (Q05 s p) (Q1y p0++u)):
 Q5c sub opens s most (s.length+1) p []=.ok (.prod (Qcz p0),Q05 s (Q05 s p+(Q1y p0).length)):=by
 obtain ⟨h1,h2⟩:=Qia h0 h hn hm;have h3:=Qs9 h1;have h4:=ha.len (Q3a hp);have h5:=Qcx sub opens hu.1 hu.2 (Q41 p0) (Qcz p0) (s.length+1) p [] h2 h1 (by
  have h6:(Q1y p0++u).length=(Q50 (Q41 p0)).length+u.length:=by rw[Uh];rfl
  rw[h6] at h4;omega) ha
 rw[Ty] at h5;exact h5
theorem Qvp (c:UInt8) (t:LU) (hc:c≠32) (E1:c≠94) (Zz:c≠42):Qgo (32::c::t):=by
 have hn:nb (32::c::t)=c:=by simp[nb,Q8s,hc]
 refine ⟨⟨⟨by rw[digN,Up];decide,fun x r h=>by injection h with h1 _;rw[<-h1];decide⟩,by rw[hn];exact E1⟩,by rw[hn];exact Zz⟩
theorem Qnk {n most:Nat} (hn:n<=most) (hm:most<=9) {s:LU} (sub:Nat->PR Ex) (opens:Bool) {u:LU} (hu:Qgo u) (KE:nb u≠43) (Xg:nb u≠45):
 ∀(r:List Q0b) (p0:Q0b) (f p:Nat) (below:Bool) (acc:List (Bool × Ex)),(∀q∈p0::r,q.1≠0/\Qf9 n q)->r.length<f->p<=s.length->At s (Q05 s p) (Q1y p0++(Q0t false r++u))->
 Qbn sub opens s most f p below acc=.ok (.sum (acc++(below,.prod (Qcz p0))::r.map Qs8),Q05 s (Q05 s p+(Q1y p0++Q0t false r).length))
 |[],p0,f+1,p,below,acc,hr,_,hp,ha=>by
  have ht:=Qib (hr p0 (by simp)).1 (hr p0 (by simp)).2 hn hm sub opens hu hp ha;have hb:Q07 s (Q05 s (Q05 s p+(Q1y p0).length))=nb u:=(At.app (t:=Q1y p0) ha).nb;unfold Qbn;rw[ht];simp only;rw[Q9m,hb,Up KE,Up Xg];simp[Q0t]
 |q::r,p0,f+1,p,below,acc,hr,hl,hp,ha=>by
  obtain ⟨c,hc,X3,E1⟩:∃c:UInt8,Q4j false q=[32,c,32]/\(c=43/\Q2a q.1=false∨c=45/\Q2a q.1=true)/\c≠32:=by
   unfold Q4j;rw[Up (by decide)];cases hb:Q2a q.1
   ·exact ⟨43,by rw[Up (by decide)],.inl ⟨rfl,rfl⟩,by decide⟩
   ·exact ⟨45,by rw[Us rfl],.inr ⟨rfl,rfl⟩,by decide⟩
  have YW:At s (Q05 s p) (Q1y p0++(32::c::(32::(Q1y q++(Q0t false r++u))))):=by
   have e:Q0t false (q::r)++u=32::c::(32::(Q1y q++(Q0t false r++u))):=by
    rw[Q0t,hc];simp
   rw[<-e];exact ha
  have ht:=Qib (hr p0 (by simp)).1 (hr p0 (by simp)).2 hn hm sub opens (Qvp c _ E1 (by rcases X3 with ⟨rfl,_⟩|⟨rfl,_⟩ <;> decide) (by rcases X3 with ⟨rfl,_⟩|⟨rfl,_⟩ <;> decide)) hp YW;have h1:=At.app YW;obtain ⟨h2,h3⟩:=h1.byte;have h4:Q05 s (Q05 s p+(Q1y p0).length)=Q05 s p+(Q1y p0).length+1:=by rw[Q6b h2];exact h3.skip0 E1
  obtain ⟨h5,h6⟩:=h3.byte;obtain ⟨h7,h8⟩:=h6.byte;have P0:Q05 s (Q05 s p+(Q1y p0).length+1+1)=Q05 s p+(Q1y p0).length+1+1+1:=by
   rw[Q6b h7];obtain ⟨Y3,A4⟩:=Qia (hr q (by simp)).1 (hr q (by simp)).2 hn hm;obtain ⟨x,y,hx,JP⟩:∃x y,Q1y q++(Q0t false r++u)=x::y/\x≠32:=by
    unfold Q1y;cases Wy:Q41 q with
    |nil=>exact absurd Wy A4
    |cons t ts=>
     rw[Wy] at Y3;cases hte:Qcz q with
     |nil=>rw[hte] at Y3;exact Y3.elim
     |cons z zs=>
      rw[hte] at Y3;obtain ⟨x,y,hx,JP⟩:=Y3.1.1;subst hx;cases ts with
      |nil=>exact ⟨x,_,rfl,JP⟩
      |cons a b=>exact ⟨x,_,rfl,JP⟩
   rw[hx] at h8;exact h8.skip0 JP
  have N0:=Q0k h5 (by rcases X3 with ⟨rfl,_⟩|⟨rfl,_⟩ <;> decide);have i7:r.length<f:=by simp only[Ur] at hl;omega
  have VG:Q05 s p+(Q1y p0).length+1+1<=s.length:=N0;have ih:=fun (b:Bool) (acc':List (Bool × Ex))=>Qnk hn hm sub opens hu KE Xg r q f (Q05 s p+(Q1y p0).length+1+1) b acc' (fun x hx=>hr x (by simp only[Uy] at hx⊢;exact .inr hx)) i7 VG (by rw[P0];exact h8);have S2:Q05 s (Q05 s p+(Q1y p0).length+1+1+1+(Q1y q++Q0t false r).length)=Q05 s (Q05 s p+(Q1y p0++Q0t false (q::r)).length):=by
   congr 1
   simp only[Q0t,hc,Uh,Ur,TW];omega
  unfold Qbn;rw[ht];simp only;rw[Q9m,h4,h5];rcases X3 with ⟨rfl,hb⟩|⟨rfl,hb⟩
  ·rw[Us rfl,ih,P0,S2];simp[Qs8,hb]
  ·rw[Up (by decide),Us rfl,ih,P0,S2];simp[Qs8,hb]
 |_,_,0,_,_,_,_,hl,_,_=>by simp at hl
theorem Qvq (t:LU):Qgo (10::t)/\nb (10::t)=10/\Q8s (10::t)=0:=by
 have hn:nb (10::t)=10:=by simp[nb,Q8s]
 exact ⟨⟨⟨⟨by rw[digN,Up];decide,fun x r h=>by injection h with h1 _;rw[<-h1];decide⟩,by rw[hn];decide⟩,by rw[hn];decide⟩,hn,by simp[Q8s]⟩
theorem Qfa {n most:Nat} {q:Q0b} (h0:q.1≠0) (h:Qf9 n q) (hn:n<=most) (hm:most<=9):∃x y,Q1y q=x::y/\x≠32/\x≠45:=by
 unfold Q1y Q41
 split
 ·rcases Qle q.1 with h1|⟨neg,v,e,ho,h1⟩
  ·exact absurd h1 h0
  ·rw[h1,Qgm ho,Qcu ho];obtain ⟨c,r,hc,O1,E1⟩:=Qcw v e;rw[hc];have a1:c≠32:=fun e=>by rw[e] at O1;exact absurd O1 (by decide)
   have a2:c≠45:=fun e=>by rw[e] at O1;exact absurd O1 (by decide)
   cases Q2p 0 q.2 with
   |nil=>exact ⟨c,r,rfl,a1,a2⟩
   |cons t ts=>exact ⟨c,_,rfl,a1,a2⟩
 ·rename_i hc;have h1:=Qgn (most:=most) 0 q.2 (by rw[h.2.1];omega) hm (Q2g h.2);have hx:∀(i:Nat) (E:List Int) t ts,Q2p i E=t::ts->∃r,t=120::r:=by
   intro i E
   induction E generalizing i with
   |nil=>intro t ts h;cases h
   |cons k r ih=>
    intro t ts h;simp only[Q2p,Qi8] at h
    split at h
    ·injection h with h _;exact ⟨_,h.symm⟩
    ·split at h
     ·injection h with h _;exact ⟨_,h.symm⟩
     ·exact ih (i+1) t ts h
  cases hp:Q2p 0 q.2 with
  |nil=>exact absurd (.inl hp) hc
  |cons t ts=>
   obtain ⟨r,rfl⟩:=hx 0 q.2 t ts hp;cases ts with
   |nil=>exact ⟨120,r,rfl,by decide,by decide⟩
   |cons a b=>exact ⟨120,_,rfl,by decide,by decide⟩
theorem Qlf:dyT 0=[48]:=rfl
theorem Qsa {n most:Nat} (hn:n<=most) (hm:most<=9) {s:LU} (sub:Nat->PR Ex) (opens:Bool) {P:List Q0b} (hP:Q4i n P) {p0 p:Nat} (Xr:Q05 s p0=p) (hp:p<=s.length) {t:LU} (h2:At s p (Q6e P++10::t)):
 Q7l sub opens s most p0=.ok (Qbo P,p+(Q6e P).length):=by
 obtain ⟨XB,Q6,he3⟩:=Qvq t;cases P with
 |nil=>
  have JX:At s p (Q2e false 0 0++10::t):=by
   have e:Q2e false 0 0=[48]:=(by simp[Q2e,Qbl,Q2i]);rw[e];exact h2
  have e:(Q2e false 0 0).length=1:=by simp[Q2e,Qbl,Q2i]
  have E7:=Qxn most (v:=0) (e:=0) (by decide) (by decide) (by decide) (fun _=>rfl) (by exact Qcq);have h3:=Qcx sub opens XB.1 XB.2 [Q2e false 0 0] [.num (some 0)] (s.length+1) p [] (by simp) ⟨E7,trivial⟩ (by simp) (by rw[h2.skip0 (by decide)];exact JX);rw[h2.skip0 (by decide)] at h3;have h4:At s (p+1) (10::t):=by have:=At.app JX;rwa[e] at this
  have h5:=h4.skip0 (by decide);simp only[Q50,e,h5,Ty] at h3;unfold Q7l;rw[Xr,h2.byte.1,Up (by decide),Qbn,h3];simp only;rw[h5,h4.byte.1,Up (by decide),Up (by decide)];rfl
 |cons q r=>
  have hq:=hP.2.2 q (by simp);obtain ⟨x,y,hx,JP,hx45⟩:=Qfa hq.1 hq.2 hn hm;have N0:=h2.len hp;have Xc:r.length<s.length+1:=by
   have:∀(l:List Q0b),l.length<=(Q0t false l).length:=fun l=>by
    induction l with
    |nil=>simp
    |cons a l ih=>
     have:1<=(Q4j false a).length:=(by unfold Q4j;rw[Up (by decide)];split <;> simp);simp only[Q0t,Uh,Ur];omega
   have h9:=this r;simp only[Q6e,Q0t,Uh,Ur,reduceCtorEq,Xac] at N0;omega
  have P0:=fun (b:Bool) (f':Nat) (h:At s (Q05 s f') (Q1y q++(Q0t false r++10::t))) (hf:f'<=s.length)=>Qnk hn hm sub opens XB (by rw[Q6];decide) (by rw[Q6];decide) r q (s.length+1) f' b [] hP.2.2 Xc hf h;have Wy:Q6e (q::r)=Q4j true q++(Q1y q++Q0t false r):=by simp[Q6e,Q0t]
  rw[Wy] at h2⊢;have YX:∀p',At s p' (Q1y q++(Q0t false r++10::t))->Q05 s (p'+(Q1y q++Q0t false r).length)=p'+(Q1y q++Q0t false r).length:=fun p' h=>by
   have h':At s p' ((Q1y q++Q0t false r)++10::t):=(by rw[Tb];exact h);exact (At.app h').skip0 (by decide)
  cases U4:Q2a q.1
  ·have D3:Q4j true q=[]:=(by simp[Q4j,U4]);rw[D3,Ty] at h2;rw[D3,Ty];have JX:At s p (Q1y q++(Q0t false r++10::t)):=(by rw[<-Tb];exact h2);have h3:At s p (x::(y++(Q0t false r++10::t))):=(by rw[hx] at JX;exact JX);have A3:=h3.skip0 JP;unfold Q7l;rw[Xr,h3.byte.1,Up hx45,P0 false p (by rw[A3];exact JX) (by omega),A3,YX _ JX];simp[Qbo,Qs8,U4]
  ·have D3:Q4j true q=[45]:=(by simp[Q4j,U4]);rw[D3] at h2⊢;have h2'':At s p (45::(Q1y q++(Q0t false r++10::t))):=(by simpa using h2);obtain ⟨h6,JX⟩:=h2''.byte;have E0:=Q0k h6 (by decide);have h3:At s (p+1) (x::(y++(Q0t false r++10::t))):=(by rw[hx] at JX;exact JX);have A3:=h3.skip0 JP;unfold Q7l;rw[Xr,h6,Us rfl,P0 true (p+1) (by rw[A3];exact JX) (by omega),A3,YX _ JX];simp only[Qbo,Qs8,U4,Ty,Xah,reduceCtorEq,Xac,Uh,Ur,TW]
   congr 2
   omega
theorem Qbz:Q44 1:=(Q17 1).1 (by decide)
theorem Qsb:(1:Dyadic)≠0:=by decide
theorem Qyc {c:Dyadic} {E:List Int} (h0:c≠0) (hf:Q44 c):Q25 [(c,E)]=.ok [(c,E)]:=by
 unfold Q25;have hg:Q1u [(c,E)]=[(c,E)]:=rfl;rw[hg];simp[(Q17 c).2 hf,h0]
theorem Qp9 (E:List Int):Q25 [(0,E)]=.ok []:=by
 unfold Q25;have hg:Q1u [((0:Dyadic),E)]=[(0,E)]:=rfl;rw[hg];simp[(Q17 0).2 Qcq]
theorem deg1 (c:Dyadic) (E:List Int) (h:0<=E.sum):Qra [(c,E)]=E.sum:=by
 simp only[Qra,Xbv,List.foldl_nil];omega
theorem mul1 {c d:Dyadic} {E F:List Int} (h0:c*d≠0) (hf:Q44 (c*d)) (hE:0<=E.sum) (hF:0<=F.sum) (hs:E.sum+F.sum<=8):Qi2 [(c,E)] [(d,F)]=.ok [(c*d,List.zipWith (·+·) E F)]:=by
 have hp:Qgj [(c,E)] [(d,F)]=[(c*d,List.zipWith (·+·) E F)]:=rfl;unfold Qi2;rw[Up (by rw[deg1 c E hE,deg1 d F hF];omega),hp,Up (by simp[(Q17 _).2 hf]),Qyc h0 hf]
def Q39 (n i:Nat) (k:Int):List Int:=(List.replicate n 0).set i k
theorem Qic (n:Nat):(List.replicate n (0:Int)).sum=0:=by
 induction n with
 |zero=>rfl
 |succ n ih=>rw[TU,Xax,ih];rfl
theorem Q4k:∀(n i:Nat) (k:Int),i<n->(Q39 n i k).sum=k
 |n+1,0,k,_=>by simp[Q39,TU]
 |n+1,i+1,k,h=>by
  have:=Q4k n i k (by omega);unfold Q39 at*;rw[TU,UF,Xax,this];omega
theorem Qid:∀(n i:Nat) (a b:Int),List.zipWith (·+·) (Q39 n i a) (Q39 n i b)=Q39 n i (a+b)
 |0,i,a,b=>by simp[Q39]
 |n+1,0,a,b=>by
  simp only[Q39,TU,UI,Xay]
  congr 1
  rw[List.zipWith_replicate];simp
 |n+1,i+1,a,b=>by
  have:=Qid n i a b;simp only[Q39,TU,UF,Xay] at this⊢;rw[this];rfl
theorem Qie {n i:Nat} (hi:i<n):∀k:Nat,k+1<=8->Qlc [(1,Q39 n i 1)] k=.ok [(1,Q39 n i ((k:Int)+1))]
 |0,_=>rfl
 |k+1,h=>by
  rw[Qlc,Qie hi k (by omega)];simp only;have hm:=mul1 (c:=1) (d:=1) (E:=Q39 n i ((k:Int)+1)) (F:=Q39 n i 1) (by decide) (by have:=Qbz;rwa[Dyadic.mul_one]) (by rw[Q4k _ _ _ hi];omega) (by rw[Q4k _ _ _ hi];omega) (by rw[Q4k _ _ _ hi,Q4k _ _ _ hi];omega);rw[hm,Dyadic.mul_one,Qid];simp
theorem Qnl {n i:Nat}:Q29 n (.var i)=.ok [(1,Q39 n i 1)]:=by
 rw[Q29];exact Qyc Qsb Qbz
theorem Qnm {n i:Nat} (hi:i<n) {k:Int} (h1:1<=k) (h8:k<=8):∃x,Qxo i k=[x]/\Q29 n x=.ok [(1,Q39 n i k)]:=by
 unfold Qxo
 split
 ·rename_i h;subst h;exact ⟨_,rfl,Qnl⟩
 ·rw[Us (by omega)];refine ⟨_,rfl,?_⟩;obtain ⟨j,hj⟩:∃j,k.toNat=j+1:=⟨k.toNat-1,by omega⟩;rw[Q29,Qnl];simp only;rw[hj]
  show Qlc _ j=_
  rw[Qie hi j (by omega)]
  congr 4
  omega
def Q4l (E:List Int) (i:Nat):List Int:=E.take i++List.replicate (E.length-i) 0
theorem Qal:∀(E:List Int) (i:Nat) (k:Int),E[i]?=some k->List.zipWith (·+·) (Q4l E i) (Q39 E.length i k)=Q4l E (i+1)
 |[],i,k,h=>by simp at h
 |a::E,0,k,h=>by
  simp only[UD,Uj] at h;subst h;simp only[Q4l,Q39,List.take_zero,Ty,Ur,Nat.sub_zero,TU,UI,Xay,List.take_succ_cons,Tt];rw[show E.length+1-(0+1)=E.length by omega,List.zipWith_replicate];simp
 |a::E,i+1,k,h=>by
  have ih:=Qal E i k (by simpa using h);simp only[Q4l,Q39,Ur,TU,UF,List.take_succ_cons,Tt,Xay] at ih⊢;rw[show E.length+1-(i+1)=E.length-i by omega,show E.length+1-(i+1+1)=E.length-(i+1) by omega,ih];simp
theorem Qfb {E:List Int} {i:Nat} (h:E[i]?=some 0):Q4l E (i+1)=Q4l E i:=by
 have hi:i<E.length:=(Ul.1 h).1;have h0:E[i]=0:=(Ul.1 h).2;unfold Q4l;rw[Tc,h,show E.length-i=(E.length-(i+1))+1 by omega,TU];simp
theorem Qc0 {E:List Int} (h:∀x∈E,0<=x) (i:Nat):0<=(E.take i).sum/\(E.take i).sum<=E.sum:=by
 have h1:=(Q84 (E:=E.take i) (fun x hx=>h x (TB hx))).1;have h2:=(Q84 (E:=E.drop i) (fun x hx=>h x (Xbk hx))).1;have h3:E.sum=(E.take i).sum+(E.drop i).sum:=by
  conv=>lhs;rw[<-Xbi i E]
  rw[List.sum_append]
 omega
theorem Qif (E:List Int) (i:Nat):(Q4l E i).sum=(E.take i).sum:=by
 unfold Q4l;rw[List.sum_append,Qic];omega
theorem Qd0 {E:List Int} (hE:Q0x E.length E) {c:Dyadic} (h0:c≠0) (hf:Q44 c):∀(r:List Int) (i:Nat),E.drop i=r->Q4s E.length (some [(c,Q4l E i)]) (Qcy i r)=.ok [(c,E)]
 |[],i,h=>by
  have G5:=List.drop_eq_nil_iff.1 h;rw[Qcy,Q4s];simp only[Xao];rw[show Q4l E i=E by unfold Q4l;rw[Uw G5,show E.length-i=0 by omega];simp]
 |k::r,i,h=>by
  have hi:i<E.length:=by
   refine TI fun G5=>?_;rw[UW G5] at h;cases h
  have hk:E[i]?=some k:=by
   have:=congrArg (fun l=>l[0]?) h;simpa using this
  have hr:E.drop (i+1)=r:=by
   rw[UG hi] at h;injection h
  have ih:=Qd0 hE h0 hf r (i+1) hr;have hks:=Q2g hE k (Uf hk);have Q2:=Qc0 hE.2.1 i;have M1:=Qc0 hE.2.1 (i+1);have hts:(E.take (i+1)).sum=(E.take i).sum+k:=by
   rw[Tc,hk,List.sum_append];simp
  by_cases JZ:k=0
  ·subst JZ;have hfe:Qxo i 0=[]:=(by simp[Qxo]);rw[Qcy,hfe,Ty,<-Qfb hk];exact ih
  ·obtain ⟨x,hx,hev⟩:=Qnm (n:=E.length) hi (k:=k) (by omega) (by omega);rw[Qcy,hx,List.singleton_append,Q4s,hev];simp only;have hm:=mul1 (c:=c) (d:=1) (E:=Q4l E i) (F:=Q39 E.length i k) (by rw[Dyadic.mul_one];exact h0) (by rw[Dyadic.mul_one];exact hf) (by rw[Qif];omega) (by rw[Q4k _ _ _ hi];omega) (by rw[Qif,Q4k _ _ _ hi];have:=hE.2.2;omega);rw[hm,Dyadic.mul_one,Qal E i k hk];exact ih
theorem Qlg {E:List Int} {i:Nat} (hi:i<E.length) (h:∀j,j<i->E[j]?=some 0) (k:Int) (hk:E[i]?=some k):Q39 E.length i k=Q4l E (i+1):=by
 rw[<-Qal E i k hk];have hz:∀j,j<=i->Q4l E j=List.replicate E.length 0:=by
  intro j
  induction j with
  |zero=>intro _;simp[Q4l]
  |succ j ih=>
   intro hj;rw[Qfb (h j (by omega))];exact ih (by omega)
 rw[hz i (Ue _)]
 apply Xa9
 intro j;rw[List.getElem?_zipWith];unfold Q39
 by_cases hj:j<E.length
 ·rw[List.getElem?_set,TD,Us hj]
  by_cases Vo:i=j
  ·subst Vo;simp[hi]
  ·rw[Up Vo];simp
 ·rw[UU (by simp;omega),UU (l:=List.replicate E.length 0) (by simp;omega)]
theorem Qfc {E:List Int} (hE:Q0x E.length E):∀(r:List Int) (i:Nat),E.drop i=r->(∀j,j<i->E[j]?=some 0)->Q2p i r≠[]->Q4s E.length none (Qcy i r)=.ok [(1,E)]
 |[],i,_,_,Q0=>absurd rfl Q0
 |k::r,i,h,hz,Q0=>by
  have hi:i<E.length:=by
   refine TI fun G5=>?_;rw[UW G5] at h;cases h
  have hk:E[i]?=some k:=by
   have:=congrArg (fun l=>l[0]?) h;simpa using this
  have hr:E.drop (i+1)=r:=by
   rw[UG hi] at h;injection h
  have hks:=Q2g hE k (Uf hk)
  by_cases JZ:k=0
  ·subst JZ;have hfe:Qxo i 0=[]:=(by simp[Qxo]);have hpe:Qi8 i 0=[]:=(by simp[Qi8]);rw[Q2p,hpe,Ty] at Q0;rw[Qcy,hfe,Ty];refine Qfc hE r (i+1) hr (fun j hj=>?_) Q0
   by_cases hji:j=i
   ·subst hji;exact hk
   ·exact hz j (by omega)
  ·obtain ⟨x,hx,hev⟩:=Qnm (n:=E.length) hi (k:=k) (by omega) (by omega);rw[Qcy,hx,List.singleton_append,Q4s,hev];simp only;rw[Qlg hi hz k hk];exact Qd0 hE Qsb Qbz r (i+1) hr
theorem Qsc {d:Dyadic} (h:d≠0):Qby d≠0:=by
 unfold Qby
 split
 ·intro e;refine h ?_;have:d= - -d:=by grind
  rw[this,e];rfl
 ·exact h
theorem Qig {d:Dyadic} (h:Q44 d):Q44 (Qby d):=by
 unfold Qby
 split
 ·exact Qvk h
 ·exact h
theorem Qih {n:Nat} {p:Q0b} (h0:p.1≠0) (h:Qf9 n p):Q29 n (.prod (Qcz p))=.ok [(Qby p.1,p.2)]:=by
 obtain ⟨hl,hE⟩:p.2.length=n/\Q0x p.2.length p.2:=⟨h.2.1,by rw[h.2.1];exact h.2⟩;rw[Q29];unfold Qcz
 split
 ·rw[Q4s,Q29,Qyc (Qsc h0) (Qig h.1)];simp only;have:=Qd0 hE (Qsc h0) (Qig h.1) p.2 0 rfl;rw[hl] at this;rw[<-this]
  congr 4
  simp[Q4l,hl]
 ·rename_i hc;have h1:Qby p.1=1:=Classical.byContradiction fun e=>hc (.inr e);have:=Qfc hE p.2 0 rfl (fun j hj=>absurd hj (TV _)) (fun e=>hc (.inl e));rw[hl] at this;rw[this,h1]
theorem Qlh {n:Nat} {Q r:List Q0b} (h:Q4i n (Q++r)):Q4i n Q:=
 ⟨(List.pairwise_append.1 h.1).1,by have:=h.2.1;rw[Uh] at this;omega,fun p hp=>h.2.2 p (by simp[hp])⟩
theorem Qfd {n:Nat}:∀(r Q:List Q0b),Q4i n (Q++r)->Q4z n (some Q) (r.map Qs8)=.ok (Q++r)
 |[],Q,_=>by simp[Q4z]
 |p::r,Q,h=>by
  have hp:=h.2.2 p (by simp);have h':Q4i n ((Q++[p])++r):=by rw[Tb];exact h
  have h1:=Qlh h';have ih:=Qfd r (Q++[p]) h';rw[Xah];unfold Qs8;rw[Q4z,Qih hp.1 hp.2];simp only;have ht:(if Q2a p.1=true then Q9l [(Qby p.1,p.2)] else [(Qby p.1,p.2)])=[p]:=by
   have h2:=Qi9 (d:=p.1)
   split
   ·rename_i hb;rw[Us hb] at h2;simp[Q9l,h2]
   ·rename_i hb;rw[Up hb] at h2;rw[h2]
  rw[ht,Qvl,Qi1 h1];simp only;rw[show r.map (fun p=>(Q2a p.1,Ex.prod (Qcz p)))=r.map Qs8 from rfl,ih,Tb];rfl
theorem Qsd {n:Nat} {P:List Q0b} (h:Q4i n P):Q29 n (Qbo P)=.ok P:=by
 cases P with
 |nil=>
  simp only[Qbo,Xaz,Q29,Q4z,Q4s,Qp9];rfl
 |cons p r=>
  have hp:=h.2.2 p (by simp);have h1:=Qfd r [p] h;have ht:(if Q2a p.1=true then Q9l [(Qby p.1,p.2)] else [(Qby p.1,p.2)])=[p]:=by
   have h2:=Qi9 (d:=p.1)
   split
   ·rename_i hb;rw[Us hb] at h2;simp[Q9l,h2]
   ·rename_i hb;rw[Up hb] at h2;rw[h2]
  simp only[Qbo,reduceCtorEq,Xac,Xah];rw[Q29];unfold Qs8;rw[Q4z,Qih hp.1 hp.2];simp only;rw[ht,show r.map (fun p=>(Q2a p.1,Ex.prod (Qcz p)))=r.map Qs8 from rfl,h1];rfl
theorem Q85 (i:Nat) (hi:i<9):(Q3u i).length=6:=by rw[Q3u,Q6z (by omega)];rfl
theorem Qse {n most i:Nat} (hn:n<=most) (hm:most<=9) {s:LU} {P:List Q0b} (hP:Q4i n P) {p:Nat} {t:LU} (ha:At s p (Q6f i P++t)) (hp:p<=s.length):Qgl s most i p=.ok (Qbo P,p+(Q6f i P).length):=by
 have h1:At s p (Q3u i++(Q6e P++10::t)):=by simpa[Q6f] using ha
 have h2:=At.fixed h1;have h3:=At.app h1;have N0:=h1.len hp;rw[Uh] at N0;have Xr:Q05 s (p+(Q3u i).length)=p+(Q3u i).length:=by
  cases P with
  |nil=>exact At.skip0 (t:=10::t) h3 (by decide)
  |cons q r=>
   have hq:=hP.2.2 q (by simp);obtain ⟨x,y,hx,JP,hx45⟩:=Qfa (most:=most) hq.1 hq.2 hn hm;cases hb:Q2a q.1
   ·have e:Q6e (q::r)=x::(y++Q0t false r):=(by simp[Q6e,Q0t,Q4j,hb,hx]);rw[e] at h3;exact At.skip0 (t:=(y++Q0t false r)++10::t) h3 JP
   ·have e:Q6e (q::r)=45::(Q1y q++Q0t false r):=(by simp[Q6e,Q0t,Q4j,hb]);rw[e] at h3;exact At.skip0 (t:=(Q1y q++Q0t false r)++10::t) h3 (by decide)
 have h4:=Qsa hn hm (Q8d s most 15) true hP Xr (by omega) h3;have h5:=At.app h3;have h6:=h5.skip0 (by decide);unfold Qgl;rw[h2];simp only;rw[show Q8d s most 16=Q7l (Q8d s most 15) true s most from rfl,h4];simp only;rw[h6,Us h5.byte.1]
 congr 2
 simp only[Q6f,Uh,Ur,TW];omega
theorem Qfe {n most:Nat} (hn:n<=most) (hm:most<=9) {s:LU}:∀(F:List (List Q0b)) (f p:Nat) (acc:List (Nat × Ex)),F≠[]->F.length<=f->(∀P∈F,Q4i n P)->p<=s.length->At s p (Q18 acc.length F)->
 ∃ls:List (Nat × Ex),Q4v s most f p acc=.ok (acc++ls)/\ls.map (·.2)=F.map Qbo
 |[],_,_,_,h,_,_,_,_=>absurd rfl h
 |P::F,f+1,p,acc,_,hf,hr,hp,ha=>by
  have h1:=Qse hn hm (hr P (by simp)) (t:=Q18 (acc.length+1) F) ha hp;have h2:=At.app (t:=Q6f acc.length P) ha;have hlen0:=At.len (t:=Q6f acc.length P++Q18 (acc.length+1) F) ha hp;rw[Uh] at hlen0;have VG:p+(Q6f acc.length P).length<=s.length:=by omega
  have N0:=h2.len VG;unfold Q4v;rw[h1];simp only;cases F with
  |nil=>
   simp only[Q18,TW] at N0;rw[Up (by omega)];exact ⟨[(p,Qbo P)],rfl,rfl⟩
  |cons Q F=>
   have O6:0<(Q18 (acc.length+1) (Q::F)).length:=by
    simp only[Q18,Q6f,Q3u,Uh,Ur];omega
   rw[Us (by omega)];obtain ⟨ls,h3,h4⟩:=Qfe hn hm (Q::F) f (p+(Q6f acc.length P).length) (acc++[(p,Qbo P)]) (by simp) (by simpa using hf) (fun x hx=>hr x (by simp only[Uy] at hx⊢;exact .inr hx)) VG (by rw[Uh];exact h2);refine ⟨(p,Qbo P)::ls,?_,by simp[h4]⟩;rw[h3,Tb];rfl
 |_::_,0,_,_,_,h,_,_,_=>by simp at h
theorem Qff {n:Nat}:∀(F:List (List Q0b)) (ls:List (Nat × Ex)) (acc:List (List Q0b)),ls.map (·.2)=F.map Qbo->(∀P∈F,Q4i n P)->Q30 n ls acc=.ok (acc++F)
 |[],[],acc,_,_=>by simp[Q30]
 |P::F,(p,x)::ls,acc,h,hr=>by
  simp only[Xah,List.cons.injEq] at h;rw[Q30,h.1,Qsd (hr P (by simp))];simp only;rw[Qff F ls (acc++[P]) h.2 (fun Q hQ=>hr Q (by simp[hQ])),Tb];rfl
 |[],_::_,_,h,_=>by simp at h
 |_::_,[],_,h,_=>by simp at h
theorem Q46 (n:Nat):(dec n).count 10=0:=by
 rw[List.count_eq_zero];intro h;have:=Q4t n 10 h;exact absurd this (by decide)
theorem Qli (neg:Bool) (v:Nat) (e:Int):(Q2e neg v e).count 10=0:=by
 unfold Q2e Qbl;have h1:=Q46 v;have h2:=Q46 e.natAbs;have h3:(if e<0 then 45::dec e.natAbs else dec e.natAbs).count 10=0:=by split <;> simp[h2]
 have h4:(if e=0 then [] else 112::(if e<0 then 45::dec e.natAbs else dec e.natAbs)).count 10=0:=by
  split
  ·rfl
  ·rw[Xaj,h3];rfl
 rw[TA,TA,h1,h4];cases neg <;> rfl
theorem Q9q (d:Dyadic):(dyT d).count 10=0:=by
 cases d with
 |zero=>decide
 |ofOdd n k h=>exact Qli _ _ _
theorem Q8t:∀(i:Nat) (E:List Int),∀t∈Q2p i E,t.count 10=0
 |_,[],_,h=>by cases h
 |i,k::r,t,h=>by
  have h1:=Q46 (i+1);have h2:=Q46 k.toNat;rw[Q2p] at h;rcases Tq.1 h with h|h
  ·unfold Qi8 at h
   split at h
   ·rw[Ux] at h;subst h;rw[Xaj,h1];rfl
   ·split at h
    ·rw[Ux] at h;subst h;rw[Xaj,TA,Xaj,h1,h2];rfl
    ·cases h
  ·exact Q8t (i+1) r t h
theorem Qd1:∀(l:List (LU)),(∀t∈l,t.count 10=0)->(Q50 l).count 10=0
 |[],_=>rfl
 |[x],h=>h x (by simp)
 |x::y::r,h=>by
  have h1:=h x (by simp);have ih:=Qd1 (y::r) (fun t ht=>h t (by simp only[Uy] at ht⊢;exact .inr ht));rw[Q50,TA,Xaj,h1,ih];rfl
theorem Qlj (p:Q0b):(Q1y p).count 10=0:=by
 refine Qd1 _ fun t ht=>?_;unfold Q41 at ht
 split at ht
 ·rcases Uy.1 ht with rfl|ht
  ·exact Q9q _
  ·exact Q8t _ _ t ht
 ·exact Q8t _ _ t ht
theorem Qb8:∀(b:Bool) (l:List Q0b),(Q0t b l).count 10=0
 |_,[]=>rfl
 |b,p::r=>by
  have h1:(Q4j b p).count 10=0:=by unfold Q4j;split <;> split <;> decide
  rw[Q0t,TA,TA,h1,Qlj,Qb8 false r]
theorem Qnn (P:List Q0b):(Q6e P).count 10=0:=by
 unfold Q6e
 split
 ·decide
 ·exact Qb8 _ _
theorem Qvr (i:Nat) (P:List Q0b):(Q6f i P).count 10=1:=by
 rw[Q6f,Q3u,TA,Xaj,TA,TA,Qnn,Q46];rfl
theorem Qd2:∀(i:Nat) (F:List (List Q0b)),(Q18 i F).count 10=F.length
 |_,[]=>rfl
 |i,P::F=>by rw[Q18,TA,Qvr,Qd2 (i+1) F,Ur];omega
theorem Qpa {F:List (List Q0b)} (h:Qs5 F):Q9o (Q18 0 F)=.ok F:=by
 obtain ⟨h1,h4,hr⟩:=h;have Q0:F≠[]:=fun e=>by rw[e] at h1;simp at h1
 obtain ⟨ls,h2,h3⟩:=Qfe (n:=F.length) (most:=F.length) (Ue _) (by omega) (s:=Q18 0 F) F 4 0 [] Q0 h4 hr (Ut _) rfl;have hl:ls.length=F.length:=by have:=congrArg List.length h3;simpa using this
 unfold Q9o;rw[Qd2,show min F.length 4=F.length by omega,h2];simp only[Ty];rw[hl,Qff F ls [] h3 hr];rfl
def Qen (b:UInt8):LU->Option (LU × LU)
 |[]=>none
 |c::r=>if c=b then some ([],r) else (Qen b r).map fun p=>(c::p.1,p.2)
def Q8e (s:LU) (p:Nat):Option (LU):=(Qen 10 (s.drop p)).map Prod.fst
def Q5o (w l:LU):Option (LU):=if (w++[32]).isPrefixOf l=true then some (l.drop (w.length+1)) else none
def Q2v (t:LU):Option Nat:=if 1<=t.length/\t.length<=4/\t.headD 0≠48/\digN t=t.length then some (dv t) else none
def Qgp (t:LU):Option (Option Dyadic):=
 match form t with
 |none=>none
 |some (neg,v,e)=>some (if Q9k (dy (sgn neg v) e)=true then some (dy (sgn neg v) e) else none)
def Qd3:LU:=[112,114,101,99]
def Q7m:LU:=[111,114,100,101,114]
def Q5d:LU:=[98,117,100,103,101,116]
def Q7n:LU:=[117,110,116,105,108]
def Qeq:LU:=[109,111,115,116]
def Q8h:LU:=[108,101,97,115,116]
def Qku:LU:=[98,111,120]
structure PrS where
 prec:Nat
 order:Nat
 budget:Nat
 til:Option Dyadic
 most:Option Dyadic
 least:Option Dyadic
 box:List (Option Dyadic × Option Dyadic)
 over:Option Nat
def PrS.empty:PrS:=⟨0,0,0,some 0,some 0,some 0,[],none⟩
def Q5p (o:Option Nat) (p:Nat) (d:Option Dyadic):Option Nat:=
 match o,d with
 |some q,_=>some q
 |none,some _=>none
 |none,none=>some p
def Qfg (l:LU):Option (Option Dyadic × Option Dyadic):=
 match (Q5o Qku l).bind (Qen 32) with
 |none=>none
 |some (lo,hi)=>match Qgp lo,Qgp hi with
  |some x,some y=>some (x,y)
  |_,_=>none
def Q51 (i p:Nat) (l:LU) (st:PrS):Option PrS:=
 match i with
 |0=>((Q5o Qd3 l).bind Q2v).map fun n=>{ st with prec:=n }
 |1=>((Q5o Q7m l).bind Q2v).map fun n=>{ st with order:=n }
 |2=>((Q5o Q5d l).bind Q2v).map fun n=>{ st with budget:=n }
 |3=>((Q5o Q7n l).bind Qgp).map fun d=>{ st with til:=d,over:=Q5p st.over p d }
 |4=>((Q5o Qeq l).bind Qgp).map fun d=>{ st with most:=d,over:=Q5p st.over p d }
 |5=>((Q5o Q8h l).bind Qgp).map fun d=>{ st with least:=d,over:=Q5p st.over p d }
 |_=>if st.box.length<4 then (Qfg l).map fun b=>{ st with box:=st.box++[b],over:=Q5p (Q5p st.over p b.1) p b.2 } else none
def Qfh (s:LU):Nat->Nat->Nat->PrS->Except (Nat × Int) (Nat × PrS)
 |0,_,p,_=>.error (p,5)
 |f+1,i,p,st=>
  match Q8e s p with
  |none=>if i<=6 then .error (s.length,5) else .ok (p,st)
  |some l=>match Q51 i p l st with
   |none=>if 6<i then .ok (p,st) else .error (p,5)
   |some st'=>Qfh s f (i+1) (p+l.length+1) st'
structure Qam where
 field:List (List Q0b)
 box:List (Dyadic × Dyadic)
 til:Dyadic
 most:Dyadic
 least:Dyadic
 prec:Nat
 order:Nat
 budget:Nat
def PrS.prob (st:PrS) (F:List (List Q0b)):Qam:=⟨F,st.box.map fun b=>(b.1.getD 0,b.2.getD 0),st.til.getD 0,st.most.getD 0,st.least.getD 0,st.prec,st.order,st.budget⟩
def Qpb (s:LU):Except (Nat × Int) Qam:=
 match Qfh s (s.length+1) 0 0 PrS.empty with
 | .error e=>.error e
 | .ok (p,st)=>match Q9o (s.drop p),st.over with
   | .error (q,5),_=>.error (p+q,5)
   |_,some o=>.error (o,2)
   | .error (q,e),none=>.error (p+q,e)
   | .ok F,none=>.ok (st.prob F)
def Qgq (d:Dyadic):Prop:=d≠0/\Q2a d=false
def Qer (x y:Dyadic):Prop:=Q2a (y-x)=false
structure Qgr (p:Qam):Prop where
 field:Qs5 p.field
 box:∀b∈p.box,Q44 b.1/\Q44 b.2/\Qer b.1 b.2
 same:p.box.length=p.field.length
 til:Q44 p.til/\Qgq p.til
 most:Q44 p.most/\Qgq p.most
 least:Q44 p.least/\Qgq p.least
 ord:Qer p.least p.most
 prec:8<=p.prec/\p.prec<=256
 order:2<=p.order/\p.order<=10
 budget:1<=p.budget/\p.budget<=4096
def Q2x (w t:LU):LU:=w++32::(t++[10])
def Qbp:List (Dyadic × Dyadic)->LU
 |[]=>[]
 |b::r=>Q2x Qku (dyT b.1++32::dyT b.2)++Qbp r
def Qan (p:Qam):LU:=
 Q2x Qd3 (dec p.prec)++(Q2x Q7m (dec p.order)++(Q2x Q5d (dec p.budget)++(Q2x Q7n (dyT p.til)++(Q2x Qeq (dyT p.most)++(Q2x Q8h (dyT p.least)++(Qbp p.box++Q18 0 p.field))))))
theorem Qgs (b:UInt8):∀(l u:LU),l.count b=0->Qen b (l++b::u)=some (l,u)
 |[],u,_=>by simp[Qen]
 |c::r,u,h=>by
  have h1:c≠b:=fun e=>by rw[e,List.count_cons_self] at h;omega
  rw[List.count_cons_of_ne h1] at h;rw[Tt,Qen,Up h1,Qgs b r u h];rfl
theorem At.cut {s:LU} {p:Nat} {l u:LU} (h:At s p (l++u)):At s (p+l.length) u:=by
 unfold At at*;rw[<-List.drop_drop,h,List.drop_left]
theorem Qno {s:LU} {p:Nat} {l u:LU} (h:At s p (l++10::u)) (hl:l.count 10=0):Q8e s p=some l:=by
 unfold Q8e;rw[show s.drop p=l++10::u from h,Qgs 10 l u hl];rfl
theorem Q5e (w t:LU):Q5o w (w++32::t)=some t:=by
 unfold Q5o;have h1:(w++[32]).isPrefixOf (w++32::t)=true:=by
  rw[List.isPrefixOf_iff_prefix];exact ⟨t,by simp⟩
 have h2:w++32::t=(w++[32])++t:=by simp
 rw[Us h1,h2,List.drop_left' (by simp)]
theorem Qao {n:Nat} (h1:1<=n) (h2:n<10^4):Q2v (dec n)=some n:=by
 unfold Q2v;have h3:=Qbx (dec n) [] (Q4t n);rw[Xai] at h3;rw[Us ⟨Q3o n,dec_len 4 n h2 (by decide),Qgk n (by omega),h3⟩,Qnf]
theorem Qd4 {d:Dyadic} (h:Q44 d):Qgp (dyT d)=some (some d):=by
 unfold Qgp;rcases Qle d with rfl|⟨neg,v,e,ho,rfl⟩
 ·rw[show form (dyT 0)=some (false,0,0) from by decide];simp only;rw[show dy (sgn false 0) 0=0 from rfl,Us ((Q17 _).2 h)]
 ·obtain ⟨h1,h2,h3⟩:=(Q5t (neg:=neg) ho).1 h;rw[Qcu ho,Qi7 neg v e h2 h3 (Uc h1 Qcv) (fun h=>by omega)];simp only;rw[Us ((Q17 _).2 h)]
theorem Qb9 (n:Nat):(dec n).count 32=0:=by
 rw[List.count_eq_zero];intro h;have:=Q4t n 32 h;exact absurd this.1 (by decide)
theorem Qlk (d:Dyadic):(dyT d).count 32=0:=by
 cases d with
 |zero=>decide
 |ofOdd n k h=>
  show (Q2e _ _ _).count 32=0
  unfold Q2e Qbl;have h1:=Qb9 n.natAbs;obtain ⟨e,he⟩:∃e,-k=e:=⟨_,rfl⟩;rw[he];have h2:=Qb9 e.natAbs;have h3:(if e<0 then 45::dec e.natAbs else dec e.natAbs).count 32=0:=by split <;> simp[h2]
  have h4:(if e=0 then [] else 112::(if e<0 then 45::dec e.natAbs else dec e.natAbs)).count 32=0:=by
   split
   ·rfl
   ·rw[Xaj,h3];rfl
  rw[TA,TA,h1,h4]
  split <;> rfl
theorem Q5f {s:LU} {f i p:Nat} {st st':PrS} {w t u:LU} (h:At s p (Q2x w t++u)) (hw:w.count 10=0) (ht:t.count 10=0) (hl:Q51 i p (w++32::t) st=some st'):
 Qfh s (f+1) i p st=Qfh s f (i+1) (p+(w.length+t.length+2)) st'/\At s (p+(w.length+t.length+2)) u:=by
 have h1:Q2x w t++u=(w++32::t)++10::u:=by simp[Q2x]
 have h2:=h;rw[h1] at h2;have h3:=Qno h2 (by rw[TA,Xaj,hw,ht];rfl);have h4:=h.cut;have h5:(Q2x w t).length=w.length+t.length+2:=by simp[Q2x];omega
 rw[h5] at h4;refine ⟨?_,h4⟩;rw[Qfh,h3];simp only[hl];rw[show p+(w++32::t).length+1=p+(w.length+t.length+2) by simp;omega]
theorem Qsf {x y:Dyadic} (hx:Q44 x) (hy:Q44 y):Qfg (Qku++32::(dyT x++32::dyT y))=some (some x,some y):=by
 unfold Qfg;rw[Q5e,TE,Qgs 32 _ _ (Qlk x)];simp only[Qd4 hx,Qd4 hy]
theorem Qll {i p:Nat} {r:LU} {st:PrS} (hi:6<=i):Q51 i p (120::r) st=none:=by
 have h1:Qfg (120::r)=none:=by
  unfold Qfg Q5o;rw[Up (by simp[Qku])];rfl
 unfold Q51
 match i,hi with
 |6,_=>simp only[h1];split <;> rfl
 |n+7,_=>simp only[h1];split <;> rfl
theorem Qfi {s:LU} {P:List Q0b} {F:List (List Q0b)}:∀(B:List (Dyadic × Dyadic)) (f i p:Nat) (st:PrS),(∀b∈B,Q44 b.1/\Q44 b.2)->At s p (Qbp B++Q18 0 (P::F))->6<=i->B.length+1<=f->st.box.length+B.length<=4->st.over=none->6<i+B.length->
 ∃p',Qfh s f i p st=.ok (p',{ st with box:=st.box++B.map fun b=>(some b.1,some b.2) })/\At s p' (Q18 0 (P::F))
 |[],f,i,p,st,_,h,hi,hf,_,ho,hl=>by
  obtain ⟨g,rfl⟩:∃g,f=g+1:=⟨f-1,by simp at hf;omega⟩;have h1:Qbp []++Q18 0 (P::F)=(Q3u 0++Q6e P)++10::Q18 1 F:=by simp[Qbp,Q18,Q6f]
  have h2:=h;rw[h1] at h2;have h3:=Qno h2 (by rw[Q3u,TA,Xaj,TA,Qnn,Q46];rfl);refine ⟨p,?_,h⟩;rw[Qfh,h3];have h4:Q51 i p (Q3u 0++Q6e P) st=none:=Qll (r:=(dec 1++[39,32,61,32])++Q6e P) hi;simp only[h4];rw[Us (by simp at hl;omega)];simp
 |b::B,f,i,p,st,hb,h,hi,hf,hk,ho,hl=>by
  obtain ⟨g,rfl⟩:∃g,f=g+1:=⟨f-1,by simp at hf;omega⟩;have C0:=hb b (by simp);have Ze:Q51 i p (Qku++32::(dyT b.1++32::dyT b.2)) st=some { st with box:=st.box++[(some b.1,some b.2)] }:=by
   have h1:=Qsf C0.1 C0.2;have h2:st.box.length<4:=(by simp at hk;omega);unfold Q51
   match i,hi with
   |6,_=>simp only[h1,Us h2,ho,Uz,Q5p]
   |n+7,_=>simp only[h1,Us h2,ho,Uz,Q5p]
  rw[Qbp,Tb] at h;obtain ⟨h1,h2⟩:=Q5f (f:=g) h (by decide) (by rw[TA,Xaj,Q9q,Q9q];rfl) Ze;obtain ⟨p',h3,h4⟩:=Qfi B g (i+1) _ { st with box:=st.box++[(some b.1,some b.2)] } (fun x hx=>hb x (by simp[hx])) h2 (by omega) (by simp at hf;omega) (by simp at hk⊢;omega) ho (by simp at hl;omega);refine ⟨p',?_,h4⟩;rw[h1,h3];simp
theorem Q7o (w t:LU):2<=(Q2x w t).length:=by simp[Q2x];omega
theorem Qnp:∀B:List (Dyadic × Dyadic),B.length<=(Qbp B).length
 |[]=>Ue _
 |b::r=>by
  have h1:=Q7o Qku (dyT b.1++32::dyT b.2);have h2:=Qnp r;rw[Qbp,Uh,Ur];omega
theorem Qii {p:Qam} (h:Qgr p):Qpb (Qan p)=.ok p:=by
 obtain ⟨s,hs⟩:∃s,Qan p=s:=⟨_,rfl⟩;have h0:At s 0 (Qan p):=by rw[<-hs];rfl
 have N0:p.box.length+8<=s.length:=by
  rw[<-hs,Qan];have h1:=Q7o Qd3 (dec p.prec);have h2:=Q7o Q7m (dec p.order);have h3:=Q7o Q5d (dec p.budget);have h4:=Q7o Q7n (dyT p.til);have h5:=Qnp p.box;simp only[Uh];omega
 rw[hs];obtain ⟨f,hf⟩:∃f,s.length+1=f+6:=⟨s.length-5,by omega⟩;unfold Qpb;rw[hf,PrS.empty];unfold Qan at h0;have no:=Q46;have nd:=Q9q;obtain ⟨e1,a1⟩:=Q5f (f:=f+5) (i:=0) (st:=⟨0,0,0,some 0,some 0,some 0,[],none⟩) h0 (by decide) (no _) (st':=⟨p.prec,0,0,some 0,some 0,some 0,[],none⟩) (by
  simp only[Q51,Q5e,TE,Qao (n:=p.prec) (by have:=h.prec;omega) (by have:=h.prec;omega)];rfl)
 obtain ⟨e2,a2⟩:=Q5f (f:=f+4) (i:=1) (st:=⟨p.prec,0,0,some 0,some 0,some 0,[],none⟩) a1 (by decide) (no _) (st':=⟨p.prec,p.order,0,some 0,some 0,some 0,[],none⟩) (by
  simp only[Q51,Q5e,TE,Qao (n:=p.order) (by have:=h.order;omega) (by have:=h.order;omega)];rfl)
 obtain ⟨e3,a3⟩:=Q5f (f:=f+3) (i:=2) (st:=⟨p.prec,p.order,0,some 0,some 0,some 0,[],none⟩) a2 (by decide) (no _) (st':=⟨p.prec,p.order,p.budget,some 0,some 0,some 0,[],none⟩) (by
  simp only[Q51,Q5e,TE,Qao (n:=p.budget) (by have:=h.budget;omega) (by have:=h.budget;omega)];rfl)
 obtain ⟨e4,a4⟩:=Q5f (f:=f+2) (i:=3) (st:=⟨p.prec,p.order,p.budget,some 0,some 0,some 0,[],none⟩) a3 (by decide) (nd _) (st':=⟨p.prec,p.order,p.budget,some p.til,some 0,some 0,[],none⟩) (by
  simp only[Q51,Q5e,TE,Qd4 h.til.1];rfl)
 obtain ⟨e5,a5⟩:=Q5f (f:=f+1) (i:=4) (st:=⟨p.prec,p.order,p.budget,some p.til,some 0,some 0,[],none⟩) a4 (by decide) (nd _) (st':=⟨p.prec,p.order,p.budget,some p.til,some p.most,some 0,[],none⟩) (by
  simp only[Q51,Q5e,TE,Qd4 h.most.1];rfl)
 obtain ⟨e6,a6⟩:=Q5f (f:=f) (i:=5) (st:=⟨p.prec,p.order,p.budget,some p.til,some p.most,some 0,[],none⟩) a5 (by decide) (nd _) (st':=⟨p.prec,p.order,p.budget,some p.til,some p.most,some p.least,[],none⟩) (by
  simp only[Q51,Q5e,TE,Qd4 h.least.1];rfl)
 obtain ⟨I2,Y9,QY⟩:=h.field;have u7:=h.same;cases hF:p.field with
 |nil=>rw[hF] at I2;simp at I2
 |cons P F=>
  rw[hF] at a6;obtain ⟨p',e7,a7⟩:=Qfi (P:=P) (F:=F) p.box f 6 _ ⟨p.prec,p.order,p.budget,some p.til,some p.most,some p.least,[],none⟩ (fun b hb=>⟨(h.box b hb).1,(h.box b hb).2.1⟩) a6 (Ue _) (by omega) (by simp;omega) rfl (by omega);rw[e1,e2,e3,e4,e5,e6,e7];have Zt:Q9o (s.drop p')=.ok p.field:=by
   rw[show s.drop p'=Q18 0 (P::F) from a7,<-hF];exact Qpa h.field
  simp only[Zt,PrS.prob];refine congrArg Except.ok ?_;cases p;simp only[Ty,List.map_map,Xao,Qam.mk.injEq,and_true,true_and];exact List.map_id'' (fun b=>rfl) _
theorem Qnq:∀v:Nat,v≠0->∃z u,u%2=1/\v=u*2^z:=by
 intro v
 induction v using Nat.strongRecOn with
 |ind v ih=>
  intro h
  by_cases ho:v%2=1
  ·exact ⟨0,v,ho,by simp⟩
  ·obtain ⟨z,u,hu,he⟩:=ih (v / 2) (by omega) (by omega);exact ⟨z+1,u,hu,by rw[Tf,<-UL,<-he];omega⟩
theorem Q9r (n e:Int):Q2a (dy n e)=decide (n<0):=by
 by_cases h0:n=0
 ·subst h0;rfl
 obtain ⟨z,u,hu,he⟩:=Qnq n.natAbs (by omega);have hn:n=sgn (decide (n<0)) n.natAbs:=by
  unfold sgn
  by_cases h:n<0
  ·rw[Us (by simpa using h)];omega
  ·rw[Up (by simpa using h)];omega
 have h1:dy n e=dy (sgn (decide (n<0)) u) (e+z):=by
  rw[Q9i,Q3n,<-he,<-hn]
 rw[h1,Q83 hu]
theorem Q6g (n m e:Int):Q2a (dy n e-dy m e)=decide (n<m):=by
 have h1:dy n e-dy m e=dy (n-m) e:=by
  rw[show n-m=n+ -m by omega,<-Qf6,<-Qna]
  grind
 rw[h1,Q9r]
 by_cases h:n<m
 ·rw[UQ h,UQ (by omega)]
 ·rw[Ta h,Ta (by omega)]
def Q77 (r:Int) (x y:Dyadic):Prop:=(r<0↔Q2a (x-y)=true)/\(0<r↔Q2a (y-x)=true)
theorem Q9s {r n m e f:Int} {k:Nat} (h:e=f+k):Q77 r (dy n e) (dy m f)↔(r<0↔n*2^k<m)/\(0<r↔m<n*2^k):=by
 unfold Q77;subst h;rw[Q9i,Q6g,Q6g,Xag,Xag]
theorem Q9t {r n m e f:Int} {k:Nat} (h:f=e+k):Q77 r (dy n e) (dy m f)↔(r<0↔n<m*2^k)/\(0<r↔m*2^k<n):=by
 unfold Q77;subst h;rw[Q9i,Q6g,Q6g,Xag,Xag]
theorem Q7p {neg:Bool} {v:Nat} (h:v≠0) (k:Nat):(sgn neg v*2^k<0↔neg=true)/\(0<sgn neg v*2^k↔neg=false):=by
 rw[Q3n];have hp:0<v*2^k:=Nat.mul_pos (by omega) (Nat.two_pow_pos k);generalize v*2^k=x at*;unfold sgn;cases neg <;> simp <;> omega
def Qap (neg:Bool) (v:Nat):Int:=if v=0 then 0 else if neg=true then -1 else 1
theorem Qfj {na nb:Bool} {va vb:Nat} {ea eb r:Int} (h:Qap na va≠Qap nb vb∨Qap na va=0) (hr:(r<0↔Qap na va<Qap nb vb)/\(0<r↔Qap nb vb<Qap na va)):Q77 r (dy (sgn na va) ea) (dy (sgn nb vb) eb):=by
 have hz:∀(n:Bool) (k:Nat),sgn n 0*2^k=0:=fun n k=>by rw[Q2u];simp
 have P1:∀(n:Bool),sgn n 0=0:=Q2u;rcases Int.le_total eb ea with G5|G5
 ·obtain ⟨k,hk⟩:∃k:Nat,ea=eb+k:=⟨(ea-eb).toNat,by omega⟩;rw[Q9s hk]
  by_cases ha:va=0 <;> by_cases hb:vb=0
  ·subst ha hb;rw[hz,P1];simp[Qap] at hr⊢;exact hr
  ·subst ha;have h2:=Q7p (neg:=nb) hb 0;rw[Int.pow_zero,Int.mul_one] at h2;rw[hz];cases nb <;> simp[Qap,hb] at hr h2⊢<;> omega
  ·subst hb;have h1:=Q7p (neg:=na) ha k;rw[P1];cases na <;> simp[Qap,ha] at hr h1⊢<;> omega
  ·have h1:=Q7p (neg:=na) ha k;have h2:=Q7p (neg:=nb) hb 0;rw[Int.pow_zero,Int.mul_one] at h2;generalize sgn na va*2^k=x at*;generalize sgn nb vb=y at*;cases na <;> cases nb <;> simp[Qap,ha,hb] at h hr h1 h2⊢<;> omega
 ·obtain ⟨k,hk⟩:∃k:Nat,eb=ea+k:=⟨(eb-ea).toNat,by omega⟩;rw[Q9t hk]
  by_cases ha:va=0 <;> by_cases hb:vb=0
  ·subst ha hb;rw[hz,P1];simp[Qap] at hr⊢;exact hr
  ·subst ha;have h2:=Q7p (neg:=nb) hb k;rw[P1];cases nb <;> simp[Qap,hb] at hr h2⊢<;> omega
  ·subst hb;have h1:=Q7p (neg:=na) ha 0;rw[Int.pow_zero,Int.mul_one] at h1;rw[hz];cases na <;> simp[Qap,ha] at hr h1⊢<;> omega
  ·have h1:=Q7p (neg:=na) ha 0;have h2:=Q7p (neg:=nb) hb k;rw[Int.pow_zero,Int.mul_one] at h1;generalize sgn nb vb*2^k=x at*;generalize sgn na va=y at*;cases na <;> cases nb <;> simp[Qap,ha,hb] at h hr h1 h2⊢<;> omega
theorem Qsg {na:Bool} {va vb:Nat} {ea eb r s:Int} (hr:Q77 r (dy (va:Int) ea) (dy (vb:Int) eb)) (hs:s=Qap na 1*r):Q77 s (dy (sgn na va) ea) (dy (sgn na vb) eb):=by
 rcases Int.le_total eb ea with G5|G5
 ·obtain ⟨k,hk⟩:∃k:Nat,ea=eb+k:=⟨(ea-eb).toNat,by omega⟩;rw[Q9s hk] at hr⊢;rw[Q3n];have hc:(va:Int)*2^k=((va*2^k:Nat):Int):=by simp
  rw[hc] at hr;generalize va*2^k=x at*;subst hs;cases na <;> simp[Qap,sgn] at hr⊢<;> omega
 ·obtain ⟨k,hk⟩:∃k:Nat,eb=ea+k:=⟨(eb-ea).toNat,by omega⟩;rw[Q9t hk] at hr⊢;rw[Q3n];have hc:(vb:Int)*2^k=((vb*2^k:Nat):Int):=by simp
  rw[hc] at hr;generalize vb*2^k=x at*;subst hs;cases na <;> simp[Qap,sgn] at hr⊢<;> omega
def Q78 (v k:Nat):Prop:=v<2^k/\(v≠0->2^(k-1)<=v/\1<=k)
theorem Qpc {va vb p q:Nat} {ea eb r:Int} (hp:Q78 va p) (hq:Q78 vb q) (ha:va≠0) (hb:vb≠0) (Q0:(p:Int)+ea≠q+eb) (hr:(r<0↔(p:Int)+ea<q+eb)/\(0<r↔(q:Int)+eb<p+ea)):Q77 r (dy (va:Int) ea) (dy (vb:Int) eb):=by
 obtain ⟨QM,JF⟩:=hp;obtain ⟨o6,F6⟩:=hq;have WJ:=JF ha;have QR:=F6 hb;have key:∀{u v m n k:Nat},u<2^m->2^(n-1)<=v->1<=n->m+k<n->u*2^k<v:=fun {u v m n k} h1 h2 h3 h4=>by
  have h5:u*2^k<2^m*2^k:=TL h1 (Nat.two_pow_pos k);rw[<-Tp] at h5;have h6:2^(m+k)<=2^(n-1):=UO (by decide) (by omega);omega
 have key2:∀{u v m n k:Nat},u<2^m->2^(n-1)<=v->1<=n->m<n+k->u<v*2^k:=fun {u v m n k} h1 h2 h3 h4=>by
  have h5:2^(n-1)*2^k<=v*2^k:=Td _ h2;rw[<-Tp] at h5;have h6:2^m<=2^(n-1+k):=UO (by decide) (by omega);omega
 rcases Int.le_total eb ea with G5|G5
 ·obtain ⟨k,hk⟩:∃k:Nat,ea=eb+k:=⟨(ea-eb).toNat,by omega⟩;rw[Q9s hk];have hc:(va:Int)*2^k=((va*2^k:Nat):Int):=by simp
  rw[hc];rcases Nat.lt_or_ge (p+k) q with h|h
  ·have:=key QM QR.1 QR.2 h;omega
  ·have:=key2 (k:=k) o6 WJ.1 WJ.2 (by omega);omega
 ·obtain ⟨k,hk⟩:∃k:Nat,eb=ea+k:=⟨(eb-ea).toNat,by omega⟩;rw[Q9t hk];have hc:(vb:Int)*2^k=((vb*2^k:Nat):Int):=by simp
  rw[hc];rcases Nat.lt_or_ge (q+k) p with h|h
  ·have:=key o6 WJ.1 WJ.2 h;omega
  ·have:=key2 (k:=k) QM QR.1 QR.2 (by omega);omega
end Go.Proofs.YtidojbkhlenahaaGreatDoor
namespace Go.Proofs.YtidojbkhlenahaaGreatDoor
open Go.RowKit WordsM
theorem Qgt:∀f,Lib.bitLenAux f 0=0
 |0=>rfl
 |_+1=>rfl
theorem Q4d:∀f x,x<2^f->Q78 x (Lib.bitLenAux f x)
 |0,x,h=>by
  obtain rfl:x=0:=by simp at h;exact h
  exact ⟨by decide,fun h=>absurd rfl h⟩
 |f+1,x,h=>by
  rw[Lib.bitLenAux]
  split
  ·next h0=>subst h0;exact ⟨by decide,fun h=>absurd rfl h⟩
  ·next h0=>
   obtain ⟨h1,h2⟩:=Q4d f (x / 2) (by rw[Tf] at h;omega)
   by_cases hx:x / 2=0
   ·rw[hx,Qgt];exact ⟨by omega,fun _=>⟨by simp;omega,by omega⟩⟩
   ·obtain ⟨h3,h4⟩:=h2 hx;generalize Lib.bitLenAux f (x / 2)=L at*;obtain ⟨M,rfl⟩:∃M,L=M+1:=⟨L-1,by omega⟩;rw[Nat.add_sub_cancel] at h3;refine ⟨by rw[Tp];omega,fun _=>⟨?_,by omega⟩⟩;rw[show 1+(M+1)-1=M+1 by omega,Tf];omega
theorem Qpd {ts:LN} {m x:Nat} (hl:Low (2^64) ts) (hm:ts.length=m+1) (hx:ts[m]?=some x) (h0:x≠0):Q78 (val (2^64) ts) (64*m+Lib.bitLen x):=by
 have D4:x<2^64:=hl x (Uf hx);obtain ⟨h1,h2⟩:=Q4d 64 x D4;obtain ⟨h3,h4⟩:=h2 h0;have hv:val (2^64) ts=val (2^64) (ts.take m)+(2^64)^m*x:=by
  have e:ts=ts.take m++[x]:=by
   have h5:=(Xbi m ts).symm;rw[UG (by omega),(Ul.1 hx).2,UW (by omega)] at h5;exact h5
  have h7:=Q9e (B:=2^64) (ts.take m) x;rw[<-e,Tl,Xa4 (by omega)] at h7;exact h7
 have F7:=Q2z (B:=2^64) (by decide) (ts.take m) (fun y hy=>hl y (TB hy));rw[Tl,Xa4 (by omega)] at F7;have hp:(2^64)^m=2^(64*m):=(TZ 2 64 m).symm;rw[hp] at hv F7
 show Q78 _ (64*m+Lib.bitLenAux 64 x)
 generalize Lib.bitLenAux 64 x=L at*;obtain ⟨M,rfl⟩:∃M,L=M+1:=⟨L-1,by omega⟩;rw[Nat.add_sub_cancel] at h3;generalize val (2^64) (ts.take m)=u at*;rw[hv];have h8:2^(64*m)*2^M<=2^(64*m)*x:=Xad _ h3;have h9:2^(64*m)*(x+1)<=2^(64*m)*2^(M+1):=Xad _ h1;rw[<-Tp] at h8 h9;rw[Nat.mul_succ] at h9;exact ⟨by omega,fun _=>⟨by rw[show 64*m+(M+1)-1=64*m+M by omega];omega,by omega⟩⟩
theorem Qij (a:OA) (n c:Nat) (ls:LN) (w:World) (h:WordsIn w a n c ls) (hn:n<=1000000):
 Calls Tryz.prog 145 #[.slice a n c] w fun e w'=>(∃k:Nat,e=.returned (.int .i64 (k:Int))/\Q78 (val (2^64) ls) k/\k<=64*n)/\Bw w w':=by
 have hc:=Q19 a n c ls w h;have HC:=Ub hc;have ht:=h.trim;have hv:val (2^64) (trimL ls)=val (2^64) ls:=Q1b ls;have KF:=Qcg ls;have P6:=trim_len ls;have G3:=h.len;obtain ⟨ts,hts⟩:∃ts,trimL ls=ts:=⟨_,rfl⟩;rw[hts] at hv KF P6 ht HC;have HT:=Xh3 ht hv KF;clear hc ht hv KF hts h
 by_cases h0:ts.length=0
 ·have JK:=UJ.1 h0;subst JK
  go_enter Tryz.func145,Tryz.ntmps145
  go_wp2_with (refine HC.out.mono ?_;rintro e w1 ⟨rfl,C0⟩;have K0:=Ub C0;clear C0)
  go_ret;exact ⟨⟨0,rfl,by rw[<-(Xo1 HT)];exact ⟨by decide,fun h=>absurd rfl h⟩,Ut _⟩,K0.out⟩
 ·obtain ⟨m,hm⟩:∃m,ts.length=m+1:=⟨ts.length-1,by omega⟩;obtain ⟨x,hx⟩:∃x,ts[m]?=some x:=⟨_,Ua (by omega)⟩;have m5:x≠0:=(Xe2 HT) x (by rw[List.getLast?_eq_getElem?,hm];exact hx);have D4:x<2^64:=(Xo0 HT).low x (Uf hx);have D4:x<18446744073709551616:=D4;have N0:=fun W=>Tryz.J2t (x:Int) W (by omega) (by omega);have U4:1<=Lib.bitLen x:=Nat.pos_of_ne_zero fun e=>m5 ((Qch x).1 e);have A7:Lib.bitLen x<=64:=Q4g 64 x;have O0:=Qpd (Xo0 HT).low hm hx m5;rw[(Xo1 HT)] at O0;rw[Xba] at N0;generalize Lib.bitLen x=L at N0 U4 A7 O0;have HLN:=Xh2 N0 O0;rw[hm] at HC;clear N0 O0 h0
  go_enter Tryz.func145,Tryz.ntmps145
  go_wp2_with (first
   |(refine HC.out.mono ?_;rintro e w1 ⟨rfl,C0⟩;(obtain ⟨b,o,rfl,E8,R0⟩:=((Xo0 HT).step C0).rd.at_ hx);have K0:=Ub C0;clear C0)
   |(refine ((Xo0 HLN) _).mono ?_;rintro e w2 ⟨rfl,rfl⟩))
  go_ret;exact ⟨⟨64*m+L,rfl,(Xe1 HLN),by omega⟩,K0.out⟩
end Go.Proofs.YtidojbkhlenahaaGreatDoor
namespace Go.Proofs.YtidojbkhlenahaaGreatDoor
namespace Div64M
theorem Qsh {D y1 y0 u r q:Nat} (h:q*y1+r=u):q*(y1*D+y0)+D*r=u*D+q*y0:=by
 subst h;rw[Tv,Tm,<-UL,UC D r];omega
theorem quot_low {D y u d:Nat} (hu:u<y) (hd:d<D):(u*D+d) / y<D:=by
 refine TY ?_;have h:(u+1)*D<=y*D:=Td D hu;rw[Tm,Nat.one_mul] at h;omega
theorem out_cond {D y1 y0 u d q r:Nat} (hy:0<y1*D+y0) (T4:q*y1+r=u) (JR:(u*D+d) / (y1*D+y0)<=q) (hc:q*y0<=D*r+d):q=(u*D+d) / (y1*D+y0):=by
 refine Nat.le_antisymm ?_ JR;rw[Nat.le_div_iff_mul_le hy];have:=Qsh (D:=D) (y0:=y0) T4;omega
theorem too_great {D y1 y0 u d q r:Nat} (hu:u<y1*D+y0) (hd:d<D) (T4:q*y1+r=u) (hc:D<=q∨D*r+d<q*y0):(u*D+d) / (y1*D+y0)+1<=q:=by
 rcases hc with hc|hc
 ·exact Uc (quot_low hu hd) hc
 ·refine TY ?_;have:=Qsh (D:=D) (y0:=y0) T4;rw[UC (y1*D+y0) q,UC u D] at*;omega
theorem out_step {D y1 y0 u d q r:Nat} (hy:0<y1*D+y0) (h0:y0<D) (T4:q*y1+r=u) (JR:(u*D+d) / (y1*D+y0)<=q) (hq:q<=D) (hr:D<=r):q=(u*D+d) / (y1*D+y0):=by
 refine out_cond hy T4 JR ?_;have h1:q*y0<=D*y0:=Td y0 hq;have h2:D*y0<=D*r:=Xad D (by omega);omega
theorem guess_le {D y1 y0 u:Nat} (hu:u<y1*D+y0) (h0:y0<D) (h1:D<=2*y1):u / y1<=D+1:=by
 have hp:0<y1:=by omega
 refine Nat.le_of_lt_succ (TY ?_);have:y1*(D+1+1)=y1*D+y1+y1:=by rw[Tv,Tv,Nat.mul_one]
 show u<y1*(D+1+1)
 omega
theorem guess_ge {D y1 y0 u d:Nat} (h1:0<y1) (hd:d<D):(u*D+d) / (y1*D+y0)<=u / y1:=by
 rw[Nat.le_div_iff_mul_le h1];have hy:0<y1*D+y0:=by
  have:=Nat.mul_pos h1 (show 0<D by omega);omega
 obtain ⟨t,ht⟩:∃t,(u*D+d) / (y1*D+y0)=t:=⟨_,rfl⟩;have h2:t*(y1*D+y0)<=u*D+d:=by rw[<-ht];exact Nat.div_mul_le_self _ _
 rw[ht];have h3:t*(y1*D+y0)=t*y1*D+t*y0:=by rw[Tv,UL]
 have h4:t*y1*D<(u+1)*D:=by rw[Tm,Nat.one_mul];omega
 exact Nat.le_of_lt_succ (Nat.lt_of_mul_lt_mul_right h4)
theorem halves {D y hi l1 l0:Nat} (hy:0<y):
 (hi*(D*D)+(l1*D+l0)) / y=(hi*D+l1) / y*D+((hi*D+l1)%y*D+l0) / y/\(hi*(D*D)+(l1*D+l0))%y=((hi*D+l1)%y*D+l0)%y:=by
 have e:hi*(D*D)+(l1*D+l0)=y*((hi*D+l1) / y*D)+((hi*D+l1)%y*D+l0):=by
  have h:=TQ (hi*D+l1) y;have h2:(hi*D+l1)*D=(y*((hi*D+l1) / y)+(hi*D+l1)%y)*D:=by rw[h]
  rw[Tm,Tm,UL,UL] at h2;omega
 rw[e];exact ⟨by rw[Nat.mul_add_div hy],Nat.mul_add_mod _ _ _⟩
end Div64M
open Go.RowKit WordsM
theorem Q9u:∀(f x:Nat),0<f->2^(f-1)<=x->Lib.bitLenAux f x=f
 |0,x,h,_=>absurd h (by omega)
 |f+1,x,_,hx=>by
  rw[Lib.bitLenAux];have hp:0<2^f:=Tr (by decide);rw[Nat.add_sub_cancel] at hx;rw[Up (by omega)];cases f with
  |zero=>simp[Lib.bitLenAux]
  |succ f=>
   rw[Q9u (f+1) (x / 2) (by omega) (by rw[Nat.add_sub_cancel,Nat.le_div_iff_mul_le (by decide),<-Tf];exact hx)];omega
theorem Qsi (hi lo y:Nat) (w:World) (hh:hi<y) (i4:lo<18446744073709551616) (hy:9223372036854775808<=y) (QG:y<18446744073709551616):
 Calls Tryz.prog 213 #[.int .u64 (hi:Int),.int .u64 (lo:Int),.int .u64 (y:Int)] w fun e w'=>
  e=.returned (.tuple #[.int .u64 (((hi*18446744073709551616+lo) / y:Nat):Int),.int .u64 (((hi*18446744073709551616+lo)%y:Nat):Int)])/\Bw w w':=by
 have U4:Lib.bitLen y=64:=Q9u 64 y (by decide) hy;have hlz:=fun W=>Tryz.J2c (y:Int) W (by omega) (by omega);rw[Xba,U4] at hlz;have hlz2:=fun W=>(hlz W).mono (R':=fun e w'=>e=.returned (.int .i64 (64-((64:Nat):Int)))/\W=w') (by rintro e w' ⟨h1,h2⟩;exact ⟨h1,h2.symm⟩);have HLZ:=Ub hlz2;clear hlz hlz2 U4
 by_cases h0:hi=0
 ·subst h0;rw[Xaa,UH];obtain ⟨q,hq⟩:∃q,lo / y=q:=⟨_,rfl⟩;obtain ⟨r,hr⟩:∃r,lo%y=r:=⟨_,rfl⟩;have VZ:q<18446744073709551616:=by rw[<-hq];exact TS (Xbt _ _) i4
  have hqI:(lo:Int) / (y:Int)=(q:Int):=by rw[<-hq];norm_cast
  have hrI:(lo:Int)%(y:Int)=(r:Int):=by rw[<-hr];norm_cast
  rw[hq,hr]
  go_enter Tryz.func213,Tryz.ntmps213
  go_wp2_with fail
  go_quiet (fail)
  go_wp2_with fail
  refine ⟨rfl,.tuple #[.int .u64 (q:Int),.int .u64 (r:Int)],by simp[results,go_sem,hrI],rfl,⟨rfl,rfl,rfl,Ue _,fun _ _=>rfl⟩⟩
 ·have h0':((hi:Int)==0)=false:=by rw[Uk];omega
  obtain ⟨y1,hy1d⟩:∃z,y / 4294967296=z:=⟨_,rfl⟩;obtain ⟨y0,hy0d⟩:∃z,y%4294967296=z:=⟨_,rfl⟩;obtain ⟨l1,hl1d⟩:∃z,lo / 4294967296=z:=⟨_,rfl⟩;obtain ⟨l0,hl0d⟩:∃z,lo%4294967296=z:=⟨_,rfl⟩;have Vd:y=y1*4294967296+y0:=by omega
  have hl_l1:l1<4294967296:=by omega
  have hl_l0:l0<4294967296:=by omega
  obtain ⟨t1,Q2⟩:∃z,(hi*4294967296+l1) / y=z:=⟨_,rfl⟩;obtain ⟨u2,Xg⟩:∃z,(hi*4294967296+l1)%y=z:=⟨_,rfl⟩;obtain ⟨t0,Xz⟩:∃z,(u2*4294967296+l0) / y=z:=⟨_,rfl⟩;obtain ⟨rr,QY⟩:∃z,(u2*4294967296+l0)%y=z:=⟨_,rfl⟩;have WQ:=Div64M.halves (D:=4294967296) (y:=y) (hi:=hi) (l1:=l1) (l0:=l0) (by omega);rw[show 4294967296*4294967296=18446744073709551616 from rfl,show l1*4294967296+l0=lo by omega,Q2,Xg,Xz,QY] at WQ;rw[WQ.1,WQ.2];have ht1l:t1<4294967296:=by rw[<-Q2];exact Div64M.quot_low hh hl_l1
  have hu2l:u2<y:=by rw[<-Xg];exact TK _ (by omega)
  have ht0l:t0<4294967296:=by rw[<-Xz];exact Div64M.quot_low hu2l hl_l0
  have C3:=TQ (hi*4294967296+l1) y;have E9:=TQ (u2*4294967296+l0) y;rw[Q2,Xg,UC y] at C3;rw[Xz,QY,UC y] at E9;have hrrl:rr<y:=by rw[<-QY];exact TK _ (by omega)
  obtain ⟨T1,hT1⟩:∃z,t1*y=z:=⟨_,rfl⟩;obtain ⟨T0,R8⟩:∃z,t0*y=z:=⟨_,rfl⟩;have hT1I:(t1:Int)*(y:Int)=(T1:Int):=by rw[<-hT1];norm_cast
  have hT0I:(t0:Int)*(y:Int)=(T0:Int):=by rw[<-R8];norm_cast
  rw[hT1] at C3;rw[R8] at E9;have ZB:(lo:Int) / 18446744073709551616=0:=by omega
  have hy1I:(y:Int) / 4294967296=(y1:Int):=by omega
  have hl1I:(lo:Int) / 4294967296=(l1:Int):=by omega
  have Q7:bits .or .u64 (hi:Int) 0=(hi:Int):=by have:=bits_or_u64_nat hi 0 (by omega) (by decide);simpa using this
  have B6:∀z:Nat,z<18446744073709551616->bits .and .u64 (z:Int) 4294967295=((z%4294967296:Nat):Int):=fun z hz=>by
   have h1:=bits_and_u64_nat z 4294967295 hz (by decide);rw[show (4294967295:Nat)=2^32-1 from rfl,Nat.and_two_pow_sub_one_eq_mod] at h1;exact h1
  have hy0I:bits .and .u64 (y:Int) 4294967295=(y0:Int):=by rw[B6 y QG,hy0d]
  have hl0I:bits .and .u64 (lo:Int) 4294967295=(l0:Int):=by rw[B6 lo i4,hl0d]
  clear B6;have ZT:=Ub Vd;have Kx:IntKind.u64.wrap (IntKind.u64.wrap (IntKind.u64.wrap ((hi:Int)*4294967296)+(l1:Int))-IntKind.u64.wrap (T1:Int))=(u2:Int):=by
   simp only[IntKind.wrap,IntKind.signed,IntKind.bits,Bool.false_and,Th,Xac];omega
  have hU0:IntKind.u64.wrap (IntKind.u64.wrap (IntKind.u64.wrap ((u2:Int)*4294967296)+(l0:Int))-IntKind.u64.wrap (T0:Int))=(rr:Int):=by
   simp only[IntKind.wrap,IntKind.signed,IntKind.bits,Bool.false_and,Th,Xac];omega
  have HU:=Ub hh;have hyb:2147483648<=y1/\y1<4294967296/\y0<4294967296:=by omega
  have HYP:=Ub (show 0<y1*4294967296+y0 by omega);clear Vd hy1d hy0d hl1d hl0d WQ C3 E9;obtain ⟨qg,Qa⟩:∃q,hi / y1=q:=⟨_,rfl⟩;have hqI:(hi:Int).tdiv (y1:Int)=(qg:Int):=by rw[<-Qa,<-Int.ofNat_tdiv]
  obtain ⟨Pg,YA⟩:∃P,qg*y1=P:=⟨_,rfl⟩;have hPgI:(qg:Int)*(y1:Int)=(Pg:Int):=by rw[<-YA];norm_cast
  obtain ⟨rg,Wi⟩:∃r,hi%y1=r:=⟨_,rfl⟩;have Vx:=TQ hi y1;rw[Qa,Wi,UC,YA] at Vx;have YY:rg<4294967296:=by have:=TK hi (show 0<y1 by omega);omega
  have hrI:(hi:Int)-(Pg:Int)=(rg:Int):=by omega
  have T4:qg*y1+rg=hi:=by rw[YA];exact Vx
  have Wm:qg<=4294967296+1:=by rw[<-Qa];exact Div64M.guess_le (D:=4294967296) (y0:=y0) (by rw[<-ZT.out];exact HU.out) (by omega) (by omega)
  have JR:t1<=qg:=by rw[<-Qa,<-Q2,ZT.out];exact Div64M.guess_ge (by omega) hl_l1
  go_enter Tryz.func213,Tryz.ntmps213
  go_upto_block 0 with (refine (HLZ.out _).mono ?_;rintro e w1 ⟨rfl,rfl⟩)
  go_cut [15] (fun qv wx=>qv=.int .u64 (t1:Int)/\w=wx)
  case first=>
   go_wp2_with fail
   go_loopw [15,16] (fun qv rv wr=>∃(q r:Nat),qv=.int .u64 (q:Int)/\rv=.int .u64 (r:Int)/\q*y1+r=hi/\t1<=q/\q<=4294967296+1/\r<4294967296/\wr=w) (fun qv _ _=>(intOf qv).toNat)
   case atStart=>exact ⟨qg,rg,rfl,rfl,T4,JR,Wm,YY,rfl⟩
   case round=>
    clear T4 JR Wm YY;obtain ⟨q,r,rfl,rfl,T4,JR,Wm,YY,rfl⟩:=hrel;obtain ⟨P,hP⟩:∃P,q*y0=P:=⟨_,rfl⟩;have Ys:(q:Int)*(y0:Int)=(P:Int):=(by rw[<-hP];norm_cast);have Ja:q<4294967296->P<18446744073709551616:=fun h=>by
     have:q*y0<=4294967296*y0:=Td y0 (by omega);omega
    have hrge:(0:Int)<=(r:Int):=Int.natCast_nonneg _;have hrlt:(r:Int)<4294967296:=(by omega);have HCC:4294967296<=q∨¬4294967296<=q:=by omega
    by_cases hc:4294967296<=q∨4294967296*r+l1<P
    ·have htg:=Div64M.too_great (D:=4294967296) (d:=l1) (y0:=y0) (q:=q) (r:=r) (u:=hi) (y1:=y1) (by rw[<-ZT.out];exact HU.out) hl_l1 T4 (by rw[hP];exact hc);rw[<-ZT.out,Q2] at htg;obtain ⟨p,hp⟩:∃p,q=p+1:=⟨q-1,by omega⟩;have Jf:p*y1+(r+y1)=hi:=(by rw[<-T4,hp,Tm];omega);have Yy:(q:Int)-1=(p:Int):=(by omega);have o6:(1:Int)<=(q:Int):=(by omega);have hgp:t1<=p:=(by omega);have KM:p<=4294967296:=(by omega);have hpq:p<q:=(by omega);have Zd:=Ub Jf;have G8:(4294967296<=q)∨(¬4294967296<=q/\4294967296*r+l1<P):=(by omega);have HCS:=Ub G8;clear hc hp htg T4 Jf G8 HCC
     by_cases X0:4294967296<=r+y1
     ·have Xt:=Div64M.out_step (D:=4294967296) (y1:=y1) (y0:=y0) (u:=hi) (d:=l1) (q:=p) (r:=r+y1) HYP.out (by omega) Zd.out (by rw[<-ZT.out,Q2];omega) (by omega) X0;rw[<-ZT.out,Q2] at Xt;have hr2I:(4294967296:Int)<=(r:Int)+(y1:Int):=(by omega);have HOT:=Ub Xt;clear X0 Xt;rcases HCS.out with hc|⟨Zz,hc⟩
      ·have D7:(4294967296:Int)<=(q:Int):=(by omega);clear hc Ja
       go_wp2_with fail
       go_meet;exact ⟨by rw[HOT.out],rfl⟩
      ·have KX:=Ja (by omega);have hcI:4294967296*(r:Int)+(l1:Int)<(P:Int):=(by omega);have hc3I:¬(4294967296:Int)<=(q:Int):=(by omega);clear hc Zz Ja
       go_wp2_with fail
       go_meet;exact ⟨by rw[HOT.out],rfl⟩
     ·have hr2I:¬(4294967296:Int)<=(r:Int)+(y1:Int):=(by omega);have HR2:=Ub X0;clear X0;rcases HCS.out with hc|⟨Zz,hc⟩
      ·have D7:(4294967296:Int)<=(q:Int):=(by omega);clear hc Ja
       go_wp2_with fail
       exact ⟨⟨p,r+y1,rfl,by simp,Zd.out,hgp,by omega,by have:=HR2.out;omega,trivial⟩,by simp only[intOf];omega⟩
      ·have KX:=Ja (by omega);have hcI:4294967296*(r:Int)+(l1:Int)<(P:Int):=(by omega);have hc3I:¬(4294967296:Int)<=(q:Int):=(by omega);clear hc Zz Ja
       go_wp2_with fail
       exact ⟨⟨p,r+y1,rfl,by simp,Zd.out,hgp,by omega,by have:=HR2.out;omega,trivial⟩,by simp only[intOf];omega⟩
    ·have Xt:=Div64M.out_cond (D:=4294967296) (y1:=y1) (y0:=y0) (u:=hi) (d:=l1) (q:=q) (r:=r) HYP.out T4 (by rw[<-ZT.out,Q2];exact JR) (by rw[hP];omega);rw[<-ZT.out,Q2] at Xt;subst Xt;have KX:=Ja (by omega);have O1:¬((4294967296:Int)<=(q:Int)):=(by omega);have E1:¬(4294967296*(r:Int)+(l1:Int)<(P:Int)):=(by omega);clear hc
     go_wp2_with fail
     go_meet;exact ⟨rfl,rfl⟩
  case rest=>
   obtain ⟨rfl,rfl⟩:=hcut;clear T4 JR Wm YY hqI hPgI hrI YA Wi Qa Vx HU;have HU:=Ub hu2l;obtain ⟨qg,Qa⟩:∃q,u2 / y1=q:=⟨_,rfl⟩;have hqI:(u2:Int).tdiv (y1:Int)=(qg:Int):=(by rw[<-Qa,<-Int.ofNat_tdiv]);obtain ⟨Pg,YA⟩:∃P,qg*y1=P:=⟨_,rfl⟩;have hPgI:(qg:Int)*(y1:Int)=(Pg:Int):=(by rw[<-YA];norm_cast);obtain ⟨rg,Wi⟩:∃r,u2%y1=r:=⟨_,rfl⟩;have Vx:=TQ u2 y1;rw[Qa,Wi,UC,YA] at Vx;have YY:rg<4294967296:=(by have:=TK u2 (show 0<y1 by omega);omega);have hrI:(u2:Int)-(Pg:Int)=(rg:Int):=(by omega);have T4:qg*y1+rg=u2:=(by rw[YA];exact Vx);have Wm:qg<=4294967296+1:=(by rw[<-Qa];exact Div64M.guess_le (D:=4294967296) (y0:=y0) (by rw[<-ZT.out];exact HU.out) (by omega) (by omega));have JR:t0<=qg:=by rw[<-Qa,<-Xz,ZT.out];exact Div64M.guess_ge (by omega) hl_l0
   go_upto_block 2 with fail
   go_cut [18] (fun qv wx=>qv=.int .u64 (t0:Int)/\w=wx)
   case first=>
    go_wp2_with fail
    go_loopw [18,16] (fun qv rv wr=>∃(q r:Nat),qv=.int .u64 (q:Int)/\rv=.int .u64 (r:Int)/\q*y1+r=u2/\t0<=q/\q<=4294967296+1/\r<4294967296/\wr=w) (fun qv _ _=>(intOf qv).toNat)
    case atStart=>exact ⟨qg,rg,rfl,rfl,T4,JR,Wm,YY,rfl⟩
    case round=>
     clear T4 JR Wm YY;obtain ⟨q,r,rfl,rfl,T4,JR,Wm,YY,rfl⟩:=hrel;obtain ⟨P,hP⟩:∃P,q*y0=P:=⟨_,rfl⟩;have Ys:(q:Int)*(y0:Int)=(P:Int):=(by rw[<-hP];norm_cast);have Ja:q<4294967296->P<18446744073709551616:=fun h=>by
      have:q*y0<=4294967296*y0:=Td y0 (by omega);omega
     have hrge:(0:Int)<=(r:Int):=Int.natCast_nonneg _;have hrlt:(r:Int)<4294967296:=(by omega);have HCC:4294967296<=q∨¬4294967296<=q:=by omega
     by_cases hc:4294967296<=q∨4294967296*r+l0<P
     ·have htg:=Div64M.too_great (D:=4294967296) (d:=l0) (y0:=y0) (q:=q) (r:=r) (u:=u2) (y1:=y1) (by rw[<-ZT.out];exact HU.out) hl_l0 T4 (by rw[hP];exact hc);rw[<-ZT.out,Xz] at htg;obtain ⟨p,hp⟩:∃p,q=p+1:=⟨q-1,by omega⟩;have Jf:p*y1+(r+y1)=u2:=(by rw[<-T4,hp,Tm];omega);have Yy:(q:Int)-1=(p:Int):=(by omega);have o6:(1:Int)<=(q:Int):=(by omega);have hgp:t0<=p:=(by omega);have KM:p<=4294967296:=(by omega);have hpq:p<q:=(by omega);have Zd:=Ub Jf;have G8:(4294967296<=q)∨(¬4294967296<=q/\4294967296*r+l0<P):=(by omega);have HCS:=Ub G8;clear hc hp htg T4 Jf G8 HCC
      by_cases X0:4294967296<=r+y1
      ·have Xt:=Div64M.out_step (D:=4294967296) (y1:=y1) (y0:=y0) (u:=u2) (d:=l0) (q:=p) (r:=r+y1) HYP.out (by omega) Zd.out (by rw[<-ZT.out,Xz];omega) (by omega) X0;rw[<-ZT.out,Xz] at Xt;have hr2I:(4294967296:Int)<=(r:Int)+(y1:Int):=(by omega);have HOT:=Ub Xt;clear X0 Xt;rcases HCS.out with hc|⟨Zz,hc⟩
       ·have D7:(4294967296:Int)<=(q:Int):=(by omega);clear hc Ja
        go_wp2_with fail
        go_meet;exact ⟨by rw[HOT.out],rfl⟩
       ·have KX:=Ja (by omega);have hcI:4294967296*(r:Int)+(l0:Int)<(P:Int):=(by omega);have hc3I:¬(4294967296:Int)<=(q:Int):=(by omega);clear hc Zz Ja
        go_wp2_with fail
        go_meet;exact ⟨by rw[HOT.out],rfl⟩
      ·have hr2I:¬(4294967296:Int)<=(r:Int)+(y1:Int):=(by omega);have HR2:=Ub X0;clear X0;rcases HCS.out with hc|⟨Zz,hc⟩
       ·have D7:(4294967296:Int)<=(q:Int):=(by omega);clear hc Ja
        go_wp2_with fail
        exact ⟨⟨p,r+y1,rfl,by simp,Zd.out,hgp,by omega,by have:=HR2.out;omega,trivial⟩,by simp only[intOf];omega⟩
       ·have KX:=Ja (by omega);have hcI:4294967296*(r:Int)+(l0:Int)<(P:Int):=(by omega);have hc3I:¬(4294967296:Int)<=(q:Int):=(by omega);clear hc Zz Ja
        go_wp2_with fail
        exact ⟨⟨p,r+y1,rfl,by simp,Zd.out,hgp,by omega,by have:=HR2.out;omega,trivial⟩,by simp only[intOf];omega⟩
     ·have Xt:=Div64M.out_cond (D:=4294967296) (y1:=y1) (y0:=y0) (u:=u2) (d:=l0) (q:=q) (r:=r) HYP.out T4 (by rw[<-ZT.out,Xz];exact JR) (by rw[hP];omega);rw[<-ZT.out,Xz] at Xt;subst Xt;have KX:=Ja (by omega);have O1:¬((4294967296:Int)<=(q:Int)):=(by omega);have E1:¬(4294967296*(r:Int)+(l0:Int)<(P:Int)):=(by omega);clear hc
      go_wp2_with fail
      go_meet;exact ⟨rfl,rfl⟩
   case rest=>
    obtain ⟨rfl,rfl⟩:=hcut
    go_wp2_with fail
    refine ⟨rfl,.tuple #[.int .u64 ((t1*4294967296+t0:Nat):Int),.int .u64 (rr:Int)],by simp[results,go_sem],rfl,Ug _ _⟩
theorem Qsj {B d:Nat} {A L:LN} {k x rest:Nat} (hx:A[k]?=some x) (hk:k<L.length) (h:val B (L.drop (k+1))*d+rest=val B (A.drop (k+1))):
 val B ((L.set k ((rest*B+x) / d)).drop k)*d+(rest*B+x)%d=val B (A.drop k):=by
 have hka:k<A.length:=(Ul.1 hx).1;have WK:A[k]=x:=(Ul.1 hx).2;have e1:A.drop k=x::A.drop (k+1):=by rw[UG hka,WK]
 have o5:k<(L.set k ((rest*B+x) / d)).length:=by rw[Tk];exact hk
 have e2:(L.set k ((rest*B+x) / d)).drop k=(rest*B+x) / d::L.drop (k+1):=by
  rw[UG o5,List.getElem_set_self,List.drop_set_of_lt (by omega)]
 rw[e1,e2];simp only[val];rw[<-h];have h1:=TQ (rest*B+x) d;generalize (rest*B+x) / d=q at*;generalize (rest*B+x)%d=r at*;generalize val B (L.drop (k+1))=V at*;rw[Tm,Tv,UL,UC q d,UC B rest];omega
theorem Qpe (a:OA) (n c:Nat) (A:LN) (d:Nat) (w:World) (h:WordsIn w a n c A) (hn:n<=100000) (hd:9223372036854775808<=d) (V2:d<18446744073709551616):
 Calls Tryz.prog 158 #[.slice a n c,.int .u64 (d:Int)] w fun e w'=>∃a' n' c',e=.returned (.tuple #[.slice a' n' c',.int .u64 ((val (2^64) A%d:Nat):Int)])/\WordsIn w' a' n' c' (dig (2^64) (val (2^64) A / d))/\Bw w w'/\∀x,a'=some x->w.heap.size<=x.block:=by
 have N0:=h.len;have H:=Ub h;have C4:=Xa8 (P:=Tryz.prog) 24 83 (.int .u64 0) 8 Tryz.underlying24 Q4x rfl .i64 .i64 n (by omega) (by omega);rw[Q22] at C4;have Z2:Bw w (w.alloc (.cells (Array.replicate n (nv .u64 0)) 83)):=Ba;have C9:=Arr.zeros w 83 .u64 n;have H0:=Xh2 Z2 C9;clear Z2 C9 h
 go_enter Tryz.func158,Tryz.ntmps158
 go_wp2_with fail
 clear C4
 go_loopw [7,8] (fun rv iv wr=>∃(k rest:Nat) (L:LN),rv=.int .u64 (rest:Int)/\iv=.int .i64 ((k:Int)-1)/\k<=n/\rest<d/\Arr 83 .u64 wr w.heap.size L/\L.length=n/\Low (2^64) L/\val (2^64) (L.drop k)*d+rest=val (2^64) (A.drop k)/\Bw w wr) (fun _ iv _=>(intOf iv+1).toNat)
 case atStart=>
  refine ⟨n,0,List.replicate n 0,rfl,rfl,Ue _,by omega,(Xe1 H0),by simp,fun x hx=>?_,?_,(Xo0 H0)⟩
  ·rw[TM hx];decide
  ·rw[Xbe (by simp),Xbe (by omega)];simp[val]
 case round=>
  obtain ⟨k,rest,L,rfl,rfl,hk,G6,hL,o4,S0,M0,O0⟩:=hrel;cases k with
  |zero=>
   rw[Xbg,Xbg] at M0;have hq:val (2^64) A / d=val (2^64) L:=by
    rw[<-M0,UC,Nat.mul_add_div (by omega),Xam G6,Tz]
   have hr:val (2^64) A%d=rest:=by
    rw[<-M0,UC,Nat.mul_add_mod,Xal G6]
   have hW:WordsIn wr (some ⟨w.heap.size,0,none⟩) n n L:=⟨o4,Ue _,by omega,S0,hL.rd⟩;have Z4:trimL L=dig (2^64) (val (2^64) A / d):=(by rw[Q1l (by decide) S0,hq]);have HE:=Xh3 hW O0 Z4;have HR:=Ub hr;clear hW O0 Z4 M0 hL S0 hq hr H0
   go_wp2_with (refine (Q19 _ _ _ _ _ (Xo0 HE)).mono ?_;rintro e w5 ⟨rfl,Z0⟩;have S4:=Ub Z0;clear Z0)
   have N3:=((Xo0 HE).step S4.out).trim;rw[(Xe2 HE)] at N3;refine ⟨rfl,.tuple #[.slice (some ⟨w.heap.size,0,none⟩) (trimL L).length n,.int .u64 (rest:Int)],by simp[results,go_sem],some ⟨w.heap.size,0,none⟩,(trimL L).length,n,by rw[HR.out],?_,Below.next0 (Xo1 HE) S4.out,fun x e=>by injection e with e;subst e;exact Ue _⟩;rw[(Xe2 HE)];exact N3
  |succ m=>
   obtain ⟨x,hx⟩:∃x,A[m]?=some x:=⟨_,Ua (by omega)⟩;obtain ⟨b,o,U5,U4,u5⟩:=(H.out.rd.below O0).at_ hx;have D4:x<18446744073709551616:=H.out.low x (Uf hx);subst U5;have P0:=Qsj (B:=2^64) hx (by omega) M0;rw[show (2:Nat)^64=18446744073709551616 from rfl] at P0;have ZP:=fun W=>Qsi rest x d W G6 D4 hd V2;have X0:(rest*18446744073709551616+x)%d<d:=TK _ (by omega);have F6:(rest*18446744073709551616+x) / d<18446744073709551616:=by
    refine TY ?_;have h1:(rest+1)*18446744073709551616<=d*18446744073709551616:=Td _ G6;omega
   generalize (rest*18446744073709551616+x) / d=q at*;generalize (rest*18446744073709551616+x)%d=r at*;have hmI:((m:Int)+1-1)=(m:Int):=(by omega);have HDV:=Ub ZP;have YN:wr.frozen? ⟨w.heap.size,m,none⟩=false:=hL.frozen m;obtain ⟨z,hz⟩:∃z,L[m]?=some z:=⟨_,Ua (by omega)⟩;have YV:wr.cell? ⟨w.heap.size,m,none⟩=some (.int .u64 (z:Int)):=hL.cell hz;have Xw:w.heap.size<wr.heap.size:=hL.lt;have HH:=Xh4 P0 hL S0 O0;clear ZP P0 hL S0 M0 O0 hx hz
   go_wp2_with (refine (HDV.out _).mono ?_;rintro e w5 ⟨rfl,Z0⟩;have hzf5:=(Z0.frozen (p:=⟨w.heap.size,m,none⟩) Xw).trans YN;have hzc5:=(Z0.cell (p:=⟨w.heap.size,m,none⟩) Xw).trans YV;have S4:=Ub Z0;clear Z0)
   refine ⟨⟨m,r,L.set m q,rfl,rfl,by omega,X0,((Xo1 HH).call S4.out).set m q,by simp[o4],Q43 (Xo2 HH) F6,(Xo0 HH),(Below.next0 (Xe3 HH) S4.out).setCell (p:=⟨w.heap.size,m,none⟩) (Ue _) _⟩,by simp only[intOf];omega⟩
theorem Qd5 (a:OA) (n c:Nat) (ls:LN) (w:World) (h:WordsIn w a n c ls) (hn:n<=100000) (h0:val (2^64) ls≠0):
 Calls Tryz.prog 146 #[.slice a n c] w (Qn8 w (val (2^64) ls)):=by
 have hc:=Q19 a n c ls w h;have hT:=fun W (hb:Bw w W)=>(h.step hb).trim;have htd:trimL ls=dig (2^64) (val (2^64) ls):=Q1l (by decide) h.low;have Q0:trimL ls≠[]:=fun e=>h0 (by rw[<-Q1b ls,e];rfl);have P6:=trim_len ls;have G3:=h.len;obtain ⟨b,o,rfl⟩:∃b o,a=some ⟨b,o,none⟩:=by
  rcases (hT w (Ug _ _)).rd with e|⟨b,o,e,_⟩
  ·exact absurd e Q0
  ·exact ⟨b,o,e⟩
 rw[htd] at hc hT P6;obtain ⟨D,hD⟩:∃D,dig (2^64) (val (2^64) ls)=D:=⟨_,rfl⟩;have hDl:Low (2^64) D:=hD ▸ Q28 (by decide) _;have hD0:D≠[]:=by rw[<-hD,<-htd];exact Q0
 rw[hD] at hc hT P6;obtain ⟨i0,E2,P1,G1,K1⟩:∃i0:TypeInfo,Tryz.prog.info? 83=some i0/\i0.zero=some (.int .u64 0)/\i0.size=1/\i0.bytes=8:=by
  have:=Q4x;cases hi:Tryz.prog.info? 83 with
  |none=>rw[hi] at this;cases this
  |some i0=>
   rw[hi] at this;simp only[Uz,Uj,Xas] at this;exact ⟨i0,rfl,this.1,this.2.1,this.2.2⟩
 have C2:=fun W (hW:WordsIn W (some ⟨b,o,none⟩) D.length c D)=>Tryz.J49 i0 (.int .u64 0) 1 8 E2 P1 G1 K1 rfl (by decide) Qgf b o D.length c (D.map (nv .u64)) W (by simp) (by unfold maxLen;omega) (by omega) (fun j u hu=>by
  rw[UP] at hu;cases hx:D[j]? with
  |none=>rw[hx] at hu;cases hu
  |some x=>
   rw[hx] at hu;simp only[Uz,Uj] at hu;subst hu;obtain ⟨b',o',e,_,D7⟩:=hW.rd.at_ hx;injection e with e;injection e with e1 e2;subst e1 e2;exact D7) (Qrj _ _)
 have HC:=Xh3 hc hT C2;have HD:=Ub hD;clear hc hT C2 htd Q0 h E2 P1 G1 K1 h0
 go_enter Tryz.func146,Tryz.ntmps146
 go_wp2_with (first
  |(go_at_call_of 144 (some ⟨b,o,none⟩:OA);refine (Xo0 HC).mono ?_;rintro e w1 ⟨rfl,C0⟩;have K0:=Ub C0;clear C0)
  |(refine ((Xe2 HC) _ ((Xo1 HC) _ K0.out)).mono ?_;rintro e w2 ⟨v',rfl,J4,KL,D0⟩;have F1:=Xh3 J4 KL D0;clear J4 KL D0))
 go_ret;obtain ⟨_,⟨e,_⟩|⟨g,cap,cur,rfl,y8,hg,hnc,J3,G8,V5⟩⟩:=(Xo0 F1)
 ·exact absurd e (Xo1 F1)
 ·refine ⟨_,_,_,rfl,?_,Below.next0 K0.out (Xe2 F1)⟩;rw[HD.out];refine ⟨?_,.inr fun x hx=>by injection hx with hx;subst hx;exact Un K0.out.size y8⟩;refine ⟨rfl,hnc,by simpa[maxLen] using J3,hDl,.inr ⟨g,0,rfl,(Uq.1 hg).1,fun j x hx=>?_⟩⟩;rw[Uv _ _ _ _ _ _ hg,UH];have hj:j<D.length:=(Ul.1 hx).1;have h1:(cur.toList.take (D.length*1))[j]?=some (nv .u64 x):=by rw[V5,UP,hx];rfl
  rw[Tw,Us (by omega),Ts] at h1;exact h1
theorem Qlm (a:OA) (n c:Nat) (ls:LN) (w:World) (h:WordsIn w a n c ls) (hn:n<=100000) (h0:val (2^64) ls≠0):
 Calls Tryz.prog 146 #[.slice a n c] w (Q9h w (val (2^64) ls)):=(Qd5 a n c ls w h hn h0).mono fun _ _ h=>h.out
end Go.Proofs.YtidojbkhlenahaaGreatDoor
