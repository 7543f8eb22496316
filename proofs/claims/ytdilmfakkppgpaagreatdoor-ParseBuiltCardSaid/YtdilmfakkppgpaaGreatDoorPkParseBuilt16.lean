/- Part 16 of the proof of LawParseBuilt: RdrA, DigD, DigE. Condition: as each theorem says; none at the end. -/
import Derived.Lib.ParseIntBCases
import Derived.Lib.AtoiErrMem
import Derived.Test.YtdilmfakkppgpaaGreatDoorPkParseBuilt15
set_option maxRecDepth 100000
set_option maxHeartbeats 16000000
namespace Go.Proofs.YtdilmfakkppgpaaGreatDoor
open Go.RowKit WordsM
theorem Q2p (s:ByteArray) {p:Nat} (h:p<s.size):Q06 s.data.toList p=s[p]'h:=by
 rw[Q6h (s:=s.data.toList) (j:=p) (by simpa using h)];exact Array.getElem_toList _
theorem Q3l (s:ByteArray) {p:Nat} (h:¬p<s.size):Q06 s.data.toList p=0:=by
 unfold Q06;rw[Tf,Tk (by simpa using h)];rfl
def atOf (w:World) (R:Nat):Nat:=match w.cell? ⟨R,1,none⟩ with|some (.int _ n)=>n.toNat|_=>0
theorem Q0q.atOf {w:World} {R:Nat} {s:ByteArray} {p:Nat} {m d:Int} {bad:Bool} (h:Q0q w R s (p:Int) m d bad):atOf w R=p:=by
 unfold Go.Proofs.YtdilmfakkppgpaaGreatDoor.atOf;rw[h.c1];simp
theorem Qa9 (fp:Nat->Prop) (w:World) (k:Nat):Q0f fp w (w.drewN k):=(Q0f.refl fp w).drewN k
section
variable {w:World} {R:Nat} {s:ByteArray} {p:Nat} {m d:Int} {bad:Bool}
theorem Qbj (h:Q0q w R s (p:Int) m d bad) (_hs:s.size<=281474976710656):
 Calls Tryz.prog 131 #[.pointer (some ⟨R,0,none⟩)] w fun e w'=>e=.returned (.int .u8 ((nxB s.data.toList p bad).toNat:Int))/\∃k,w'=w.drewN k:=by
 obtain ⟨c0,c1,c2,c3,c4,_,_,_,_,_,_,_⟩:=id h;clear h;cases bad with
 |true=>
  go_enter Tryz.func131,Tryz.ntmps131
  go_wp2_with fail
  go_quiet (fail)
  go_wp2_with fail
  go_ret;exact ⟨rfl,_,rfl⟩
 |false=>
  by_cases B0:p<s.size
  ·have E0:¬(s.size:Int)<=(p:Int):=(by omega);have G4:(p:Int)<(s.size:Int):=(by omega);have hv:nxB s.data.toList p false=s[p]'B0:=Q2p s B0;rw[hv];clear hv
   go_enter Tryz.func131,Tryz.ntmps131
   go_wp2_with fail
   go_quiet (fail)
   go_wp2_with fail
   go_quiet (fail)
   go_wp2_with fail
   go_ret;exact ⟨rfl,_,by rw[Xbq]⟩
  ·have E0:(s.size:Int)<=(p:Int):=(by omega);have hv:nxB s.data.toList p false=0:=Q3l s B0;rw[hv];clear hv
   go_enter Tryz.func131,Tryz.ntmps131
   go_wp2_with fail
   go_quiet (fail)
   go_wp2_with fail
   go_ret;exact ⟨rfl,_,rfl⟩
theorem Q5g {p:Int} (h:Q0q w R s p m d bad) (q:Int):
 Calls Tryz.prog 132 #[.pointer (some ⟨R,0,none⟩),.int .i64 q] w fun e w'=>e=.returned (.tuple #[])/\Q0q w' R s (if bad=true then p else q) m d true/\Q0f (OnR R) w w':=by
 obtain ⟨c0,c1,c2,c3,c4,f0,f1,f2,f3,f4,_,_⟩:=id h;have H:=Ua h;clear h;cases bad with
 |true=>
  go_enter Tryz.func132,Tryz.ntmps132
  go_wp2_with fail
  exact ⟨rfl,.tuple #[],by simp[results],rfl,H.out,Q0f.refl _ _⟩
 |false=>
  go_enter Tryz.func132,Tryz.ntmps132
  go_wp2_with fail
  exact ⟨rfl,.tuple #[],by simp[results],rfl,(H.out.setBad true).setAt q,(Q0g _ _ _ _).trans0 (Q0g _ _ _ _)⟩
theorem Qwh {L:LU} {q:Nat} {bad:Bool} (h:nxB L q bad=32):bad=false/\q<L.length/\skS L (q+1) bad=skS L q bad:=by
 obtain ⟨rfl,h1,h2⟩:=Qwd (s:=L) (p:=q) (bad:=bad) (by rw[h];decide);exact ⟨rfl,h1,by unfold skS;simp only[Tl,Xaq];exact (Q54 (by rw[<-h2];exact h)).symm⟩
theorem Qwi {L:LU} {q:Nat} {bad:Bool} (h:nxB L q bad≠32):skS L q bad=q:=by
 unfold skS;cases bad
 ·simp only[Tl,Xaq];exact Q5c (by simpa[nxB] using h)
 ·rfl
theorem Q3g (h:Q0q w R s (p:Int) m d bad) (hp:p<=s.size) (hs:s.size<=281474976710656):
 Calls Tryz.prog 81 #[.pointer (some ⟨R,0,none⟩)] w fun e w'=>e=.returned (.int .u8 ((nxB s.data.toList (skS s.data.toList p bad) bad).toNat:Int))/\Q0q w' R s ((skS s.data.toList p bad:Nat):Int) m d bad/\Q0f (OnR R) w w':=by
 obtain ⟨L,hL⟩:∃L,s.data.toList=L:=⟨_,rfl⟩;have QK:L.length=s.size:=by rw[<-hL];rfl
 rw[hL];obtain ⟨V,hV⟩:∃V,skS L p bad=V:=⟨_,rfl⟩;rw[hV];have H:=Xh4 h hL QK hV;clear h hL QK hV
 go_enter Tryz.func81,Tryz.ntmps81
 go_wp2_with fail
 go_loopw [] (fun wr=>∃q:Nat,q<=s.size/\Q0q wr R s (q:Int) m d bad/\skS L q bad=V/\Q0f (OnR R) w wr) (fun wr=>s.size-atOf wr R)
 case atStart=>exact ⟨p,hp,(Xo0 H),(Xe3 H),Q0f.refl _ _⟩
 case round=>
  obtain ⟨q,hq,hr,Wy,ht⟩:=hrel;obtain ⟨c,hc⟩:∃c,nxB L q bad=c:=⟨_,rfl⟩;have hn:=Qbj hr hs;rw[(Xo1 H),hc] at hn;have R5:=fun k=>Qbj (hr.drewN k) hs;rw[(Xo1 H),hc] at R5
  by_cases WI:c=32
  ·subst WI;obtain ⟨Xo,B0,Z0⟩:=Qwh hc;have Q2:IntKind.i64.wrap ((q:Int)+1)=(q:Int)+1:=(by rw[Ut];have:=(Xo2 H);omega);have HN:=Xh6 hn hr Wy ht B0 Z0;clear hn R5 hr Wy ht B0 Z0 hc Xo
   go_wp2_with (refine (Xo0 HN).mono ?_;rintro r w1 ⟨rfl,k,rfl⟩;have c1:=((Xo1 HN).drewN k).c1;have f1:=((Xo1 HN).drewN k).f1)
   have A1:=((Xo1 HN).drewN k).setAt ((q:Int)+1);have G1:Q0q ((wr.drewN k).setCell ⟨R,1,none⟩ (.int .i64 ((q:Int)+1))) R s ((q+1:Nat):Int) m d bad:=A1;refine ⟨⟨q+1,?_,G1,?_,?_⟩,?_⟩
   ·have:=(Xo4 HN);have:=(Xo2 H);omega
   ·rw[(Xe5 HN)];exact (Xo2 HN)
   ·exact ((Xo3 HN).drewN k).trans0 (Q0g _ _ _ _)
   ·have h1:=(Xo1 HN).atOf;have h2:=G1.atOf;have:=(Xo4 HN);have:=(Xo2 H);omega
  ·have C1:((c.toNat:Int)==32)=false:=by
    rw[Ui];intro e
    apply WI
    apply TM.1
    have h32n:(32:UInt8).toNat=32:=rfl;omega
   have Z0:=Qwi (bad:=bad) (L:=L) (q:=q) (by rw[hc];exact WI);have Kf:q=V:=(by rw[<-Wy,Z0]);have HN:=Xh6 hn hr Kf ht hc R5;clear hn hr Wy ht Z0 hc Kf R5
   go_wp2_with (first|(refine (Xo0 HN).mono ?_;rintro r w1 ⟨rfl,k,rfl⟩)|(refine ((Xe5 HN) _).mono ?_;rintro r w1 ⟨rfl,k2,rfl⟩))
   go_ret;refine ⟨?_,?_,?_⟩
   ·rw[<-(Xo2 HN),(Xo4 HN)];rfl
   ·rw[<-(Xo2 HN),<-Xbq];exact ((Xo1 HN).drewN k).drewN k2
   ·rw[<-Xbq];exact ((Xo3 HN).drewN k).drewN k2
theorem Qe6 (h:Q0q w R s (p:Int) m d bad) (hp:p<=s.size) (hs:s.size<=281474976710656) (lo hi:Int) (q5:0<=lo):
 Calls Tryz.prog 192 #[.pointer (some ⟨R,0,none⟩),.int .i64 lo,.int .i64 hi] w fun e w'=>
  ((bad=false/\lo<=((Q06 s.data.toList p).toNat:Int)-48/\((Q06 s.data.toList p).toNat:Int)-48<=hi/\e=.returned (.int .i64 (((Q06 s.data.toList p).toNat:Int)-48))/\Q0q w' R s ((p+1:Nat):Int) m d false)∨
    (¬(bad=false/\lo<=((Q06 s.data.toList p).toNat:Int)-48/\((Q06 s.data.toList p).toNat:Int)-48<=hi)/\e=.returned (.int .i64 0)/\Q0q w' R s (p:Int) m d true))/\Q0f (OnR R) w w':=by
 obtain ⟨t,ht⟩:∃t:Int,((nxB s.data.toList p bad).toNat:Int)=t:=⟨_,rfl⟩;have Y1:0<=t:=by omega
 have U1:t<256:=by have:=(nxB s.data.toList p bad).toNat_lt;omega
 have hbyte:bad=false->((Q06 s.data.toList p).toNat:Int)=t:=by rintro rfl;exact ht
 have O6:bad=true->t=0:=by rintro rfl;rw[<-ht];rfl
 have hn:=Qbj h hs;rw[ht] at hn;have Q2:=fun (k:Nat) (q:Int)=>Q5g (h.drewN k) q;have Ku:IntKind.i64.wrap t=t:=by rw[Ut];omega
 have K4:IntKind.i64.wrap (t-48)=t-48:=by rw[Ut];omega
 have Q8:IntKind.i64.wrap ((p:Int)+1)=(p:Int)+1:=by rw[Ut];omega
 have H:=Xh5 h hbyte O6 hn Q2;have QZ:(p:Int)<=(s.size:Int):=by omega
 have HS:=Xh6 hs ht Y1 U1 q5 QZ;clear h hbyte O6 hn Q2 hs ht Y1 U1 q5 QZ hp
 by_cases hl:t-48<lo
 ·have hN:¬(bad=false/\lo<=((Q06 s.data.toList p).toNat:Int)-48/\((Q06 s.data.toList p).toNat:Int)-48<=hi):=fun ⟨hb,h1,_⟩=>by have:=(Xo1 H) hb;omega
  have HN:=Ua hN;clear hN
  go_enter Tryz.func192,Tryz.ntmps192
  go_wp2_with (first
   |(go_at_call_of 131 (Value.pointer (some ⟨R,0,none⟩));refine (Xo3 H).mono ?_;rintro r w1 ⟨rfl,k,rfl⟩;have c1:=((Xo0 H).drewN k).c1)
   |(refine ((Xe4 H) _ _).mono ?_;rintro r w2 ⟨rfl,G1,U1⟩;have HB:=Xh2 G1 U1;clear G1 U1))
  go_ret;refine ⟨.inr ⟨HN.out,rfl,?_⟩,(Qa9 _ _ _).trans0 (Xe1 HB)⟩;have h1:=(Xo0 HB)
  split at h1 <;> exact h1
 ·by_cases hh:hi<t-48
  ·have hN:¬(bad=false/\lo<=((Q06 s.data.toList p).toNat:Int)-48/\((Q06 s.data.toList p).toNat:Int)-48<=hi):=fun ⟨hb,_,h1⟩=>by have:=(Xo1 H) hb;omega
   have HN:=Ua hN;clear hN
   go_enter Tryz.func192,Tryz.ntmps192
   go_wp2_with (first
    |(go_at_call_of 131 (Value.pointer (some ⟨R,0,none⟩));refine (Xo3 H).mono ?_;rintro r w1 ⟨rfl,k,rfl⟩;have c1:=((Xo0 H).drewN k).c1)
    |(refine ((Xe4 H) _ _).mono ?_;rintro r w2 ⟨rfl,G1,U1⟩;have HB:=Xh2 G1 U1;clear G1 U1))
   go_ret;refine ⟨.inr ⟨HN.out,rfl,?_⟩,(Qa9 _ _ _).trans0 (Xe1 HB)⟩;have h1:=(Xo0 HB)
   split at h1 <;> exact h1
  ·have Xo:bad=false:=by
    cases bad with
    |false=>rfl
    |true=>have:=(Xo2 H) rfl;have:=HS.out;omega
   subst Xo;have HB:=Ua ((Xo1 H) rfl)
   go_enter Tryz.func192,Tryz.ntmps192
   go_wp2_with (first
    |(go_at_call_of 131 (Value.pointer (some ⟨R,0,none⟩));refine (Xo3 H).mono ?_;rintro r w1 ⟨rfl,k,rfl⟩;have c1:=((Xo0 H).drewN k).c1;have f1:=((Xo0 H).drewN k).f1))
   go_ret;refine ⟨.inl ⟨trivial,?_,?_,?_,?_⟩,(Qa9 _ _ _).trans0 (Q0g _ _ _ _)⟩
   ·rw[HB.out];omega
   ·rw[HB.out];omega
   ·rw[HB.out];rfl
   ·exact ((Xo0 H).drewN k).setAt ((p:Int)+1)
theorem Q7n {s:ByteArray} {p:Nat} (hp:p<s.size):s.data.toList.drop p=(s[p]'hp)::s.data.toList.drop (p+1):=by
 rw[UC (show p<s.data.toList.length from hp)]
 congr 1
theorem Q8k {s:ByteArray} {i:Nat} (hi:i<s.size) (h:48<=(s[i]'hi).toNat/\(s[i]'hi).toNat<=57):Q13 s.data.toList (i+1)=Q13 s.data.toList i:=by
 unfold Q13;rw[Q7n hi,DecM.digN,Us h];omega
theorem Q46 {s:ByteArray} {i:Nat} (h:∀hi:i<s.size,¬(48<=(s[i]'hi).toNat/\(s[i]'hi).toNat<=57)):Q13 s.data.toList i=i:=by
 unfold Q13
 by_cases hi:i<s.size
 ·rw[Q7n hi,DecM.digN,Uq (h hi)];rfl
 ·rw[UZ (by show s.data.toList.length<=i;have:s.data.toList.length=s.size:=rfl;omega)];rfl
theorem Qe7 {p:Int} (h:Q0q w R s p m d bad) (a:Nat) (ha:a<=s.size) (hs:s.size<=281474976710656):
 Calls Tryz.prog 229 #[.pointer (some ⟨R,0,none⟩),.int .i64 (a:Int)] w fun e w'=>e=.returned (.int .i64 ((Q13 s.data.toList a:Nat):Int))/\w=w':=by
 obtain ⟨V,hV⟩:∃V,Q13 s.data.toList a=V:=⟨_,rfl⟩;rw[hV];have c0:=h.c0;have H:=Xh3 hV ha hs;clear h hV ha hs
 go_enter Tryz.func229,Tryz.ntmps229
 go_wp2_with fail
 go_loopw [1] (fun v wr=>∃i:Nat,v=.int .i64 (i:Int)/\i<=s.size/\Q13 s.data.toList i=V/\w=wr) (fun v _=>s.size-(intOf v).toNat)
 case atStart=>exact ⟨a,rfl,(Xo1 H),(Xo0 H),rfl⟩
 case round=>
  obtain ⟨i,rfl,hi,hw,rfl⟩:=hrel;have HW:=Xh2 hi hw;clear hi hw
  by_cases B0:i<s.size
  ·have E0:(i:Int)<(s.size:Int):=by omega
   by_cases Q3:(48:Int)<=((s[i]'B0).toNat:Int)
   ·by_cases h57:((s[i]'B0).toNat:Int)<=57
    ·have Q2:IntKind.i64.wrap ((i:Int)+1)=(i:Int)+1:=by rw[Ut];have:=(Xe2 H);omega
     go_wp2_with fail
     have Z0:=Q8k B0 ⟨by omega,by omega⟩;refine ⟨⟨i+1,?_,by omega,Z0.trans (Xe1 HW),trivial⟩,?_⟩
     ·exact congrArg (Value.int .i64) (by omega)
     ·simp[intOf];omega
    ·have HV:=Ua (show i=V from by rw[<-(Xe1 HW),Q46 (fun _=>by omega)])
     go_wp2_with fail
     go_ret;exact ⟨show Ending.returned (.int .i64 (i:Int))=_ by rw[HV.out],rfl⟩
   ·have HV:=Ua (show i=V from by rw[<-(Xe1 HW),Q46 (fun _=>by omega)])
    go_wp2_with fail
    go_ret;exact ⟨show Ending.returned (.int .i64 (i:Int))=_ by rw[HV.out],rfl⟩
  ·have E0:¬(i:Int)<(s.size:Int):=(by omega);have HV:=Ua (show i=V from by rw[<-(Xe1 HW),Q46 (fun h=>absurd h B0)])
   go_wp2_with fail
   go_ret;exact ⟨show Ending.returned (.int .i64 (i:Int))=_ by rw[HV.out],rfl⟩
def Qhp (R:Nat) (s:ByteArray) (m d:Int) (X:Except Nat Nat) (w':World):Prop:=match X with| .ok q=>Q0q w' R s (q:Int) m d false/\q<=s.size| .error q=>Q0q w' R s (q:Int) m d true/\q<=s.size
theorem Qnm {L T:LU} {i p:Nat} {c:UInt8} {r:LU} (h:T.drop i=c::r) (hc:Q06 L p=c):Q1h L (T.drop i) p=Q1h L (T.drop (i+1)) (p+1):=by
 have h2:T.drop (i+1)=r:=by rw[<-List.tail_drop,h];rfl
 rw[h2,h,Q1h,Us hc]
theorem Q9f (h:Q0q w R s (p:Int) m d bad) (hp:p<=s.size) (hs:s.size<=281474976710656) (t:ByteArray) (ht:t.size<=281474976710656) (Wp:∀c∈t.data.toList,c≠0) (Kg:0<t.size):
 Calls Tryz.prog 79 #[.pointer (some ⟨R,0,none⟩),.string t] w fun e w'=>e=.returned (.tuple #[])/\Q0f (OnR R) w w'/\Qhp R s m d (if bad=true then Except.error p else Q1h s.data.toList t.data.toList p) w':=by
 obtain ⟨X,hX⟩:∃X,(if bad=true then Except.error p else Q1h s.data.toList t.data.toList p)=X:=⟨_,rfl⟩;rw[hX];have H:=Xh7 h hp hs ht Wp hX Kg;clear h hp hs ht Wp hX Kg
 go_enter Tryz.func79,Tryz.ntmps79
 go_wp2_with fail
 go_loopw [7] (fun v wr=>∃i q:Nat,v=.int .i64 (i:Int)/\i<=t.size/\q<=s.size/\Q0q wr R s (q:Int) m d bad/\(bad=true->i=0/\q=p)/\(bad=false->Q1h s.data.toList (t.data.toList.drop i) q=X)/\Q0f (OnR R) w wr) (fun v _=>t.size-(intOf v).toNat)
 case atStart=>exact ⟨0,p,rfl,Uu _,(Xo1 H),(Xo0 H),fun _=>⟨rfl,rfl⟩,fun hb=>by have:=(Xo5 H);rw[hb] at this;simpa using this,Q0f.refl _ _⟩
 case round=>
  obtain ⟨i,q,rfl,hi,hq,hr,KM,Xo,htn⟩:=hrel
  by_cases B0:i<t.size
  ·have E0:(i:Int)<(t.size:Int):=(by omega);have hn:=fun k=>Qbj (hr.drewN k) (Xo2 H);have hwg:=fun (k:Nat) (z:Int)=>Q5g (hr.drewN k) z;obtain ⟨c,hc⟩:∃c,nxB s.data.toList q bad=c:=⟨_,rfl⟩;rw[hc] at hn;have HN:=Xh9 hn hr KM Xo htn hc hwg hi hq;clear hn hr KM Xo htn hc hwg hi hq
   by_cases O4:c=(t[i]'B0)
   ·have hbeq:((c.toNat:Int)==((t[i]'B0).toNat:Int))=true:=(by rw[O4];simp);have Jy:((c.toNat:Int) != ((t[i]'B0).toNat:Int))=false:=(by rw[O4];simp);have C4:bad=false/\q<s.size/\Q06 s.data.toList q=(t[i]'B0):=by
     have h1:=(Xo5 HN);have h2:(t[i]'B0)≠0:=(Xo4 H) _ (by rw[show (t[i]'B0)=t.data.toList[i]'(by exact B0) from (Array.getElem_toList _).symm];exact List.getElem_mem _);obtain ⟨a1,a2,a3⟩:=Qwd (s:=s.data.toList) (p:=q) (bad:=bad) (by rw[h1,O4];exact h2);exact ⟨a1,a2,by rw[<-a3,h1,O4]⟩
    have HB:=Ua C4;clear C4 O4;have Q2:IntKind.i64.wrap ((i:Int)+1)=(i:Int)+1:=(by rw[Ut];have:=(Xo3 H);omega);have YA:IntKind.i64.wrap ((q:Int)+1)=(q:Int)+1:=by rw[Ut];have:=(Xo2 H);have:=(Xe8 HN);omega
    go_wp2_with fail
    go_quiet (first|(refine Calls.quiet_of ((Xo0 HN) _)))
    have c1:=((Xo1 HN).drewN nq).c1;have f1:=((Xo1 HN).drewN nq).f1
    go_wp2_with fail
    refine ⟨⟨i+1,q+1,?_,by omega,?_,?_,?_,?_,?_⟩,?_⟩
    ·exact congrArg (Value.int .i64) (by omega)
    ·exact (Xo1 HB)
    ·exact ((Xo1 HN).drewN nq).setAt ((q:Int)+1)
    ·intro hb;rw[(Xo0 HB)] at hb;cases hb
    ·intro _;rw[<-(Xo3 HN) (Xo0 HB)];exact (Qnm (Q7n B0) (Xe2 HB)).symm
    ·exact ((Xo4 HN).drewN nq).trans0 (Q0g _ _ _ _)
    ·simp[intOf];omega
   ·have hbeq:((c.toNat:Int)==((t[i]'B0).toNat:Int))=false:=by
     rw[Ui];intro e;exact O4 (TM.1 (by omega))
    have Jy:((c.toNat:Int) != ((t[i]'B0).toNat:Int))=true:=(by rw[bne,hbeq];rfl);have HQ:=Ua O4;clear O4
    go_wp2_with fail
    go_quiet (first|(refine Calls.quiet_of ((Xo0 HN) _)))
    have c1:=((Xo1 HN).drewN nq).c1
    go_wp2_with (refine ((Xo6 HN) _ _).mono ?_;rintro r w2 ⟨rfl,G1,U1⟩;have HB:=Xh2 G1 U1;clear G1 U1)
    refine ⟨rfl,.tuple #[],by simp[results],rfl,((Xo4 HN).drewN nq).trans0 (Xe1 HB),?_⟩;have h1:=(Xo0 HB);cases bad with
    |true=>
     obtain ⟨rfl,rfl⟩:=(Xo2 HN) rfl;have hX:=(Xo5 H);rw[Us rfl] at hX;rw[<-hX];exact ⟨h1,(Xo1 H)⟩
    |false=>
     have hX:=(Xo3 HN) rfl;rw[Q7n B0,Q1h,Uq (by
      have h2:=(Xo5 HN);intro e;exact HQ.out (by rw[<-h2,<-e];rfl))] at hX
     rw[<-hX];exact ⟨h1,(Xe8 HN)⟩
  ·have E0:¬(i:Int)<(t.size:Int):=(by omega);have HN:=Xh6 hr KM Xo htn hi hq;clear hr KM Xo htn hi hq
   go_wp2_with fail
   refine ⟨rfl,.tuple #[],by simp[results],rfl,(Xo3 HN),?_⟩;have M7:i=t.size:=(by have:=(Xo4 HN);omega);cases bad with
   |true=>have:=((Xo1 HN) rfl).1;have:=(Xe6 H);omega
   |false=>
    have hX:=(Xo2 HN) rfl;rw[UZ (show t.data.toList.length<=i by have:t.data.toList.length=t.size:=rfl;omega),Q1h] at hX;rw[<-hX];exact ⟨(Xo0 HN),(Xe5 HN)⟩
end
end Go.Proofs.YtdilmfakkppgpaaGreatDoor
namespace Go.Proofs.YtdilmfakkppgpaaGreatDoor
open Go.RowKit WordsM DecM
theorem Qe8:∀(l:LU) (acc k:Nat),Qdr l->acc<10^k->k+l.length<=19->Lib.parseUintM 18446744073709551615 acc l=.ok (l.foldl (fun a b=>10*a+(b.toNat-48)) acc)
 |[],acc,k,_,_,_=>rfl
 |c::r,acc,k,h,ha,hk=>by
  have hc:=h c (by simp);rw[Uz] at hk;have h18:acc<10^18:=Ue ha (UR (by decide) (by omega));have h1:acc*10+(c.toNat-48)<10^(k+1):=by rw[Th];omega
  have h2:(10:Nat)^(k+1)<=10^19:=UR (by decide) (by omega);have e18:(10:Nat)^18=1000000000000000000:=rfl;have e19:(10:Nat)^19=10000000000000000000:=rfl;rw[e18] at h18;rw[e19] at h2;have ih:=Qe8 r (acc*10+(c.toNat-48)) (k+1) (fun x hx=>h x (by simp[hx])) h1 (by omega);rw[Lib.parseUintM,Us hc,Uq (by omega),Uq (by omega),ih,List.foldl_cons,UG acc 10]
theorem Qr3 (l:LU) (h:Qdr l) (h0:l≠[]) (hl:l.length<=19):Lib.parseUintB 64 l=.ok (dv l):=by
 unfold Lib.parseUintB;rw[Uq h0];exact Qe8 l 0 0 h (by decide) (by omega)
theorem Qm6 (s:ByteArray) (n:Nat):(s.extract 0 n).data.toList=s.data.toList.take n:=by simp
theorem Qm7 (s:ByteArray) (n:Nat):(s.extract n s.size).data.toList=s.data.toList.drop n:=by
 have hl:s.data.toList.length=s.size:=rfl;simp only[ByteArray.data_extract,Array.toList_extract,List.extract_eq_take_drop];exact UA (by rw[Te,hl];exact Ug _)
def lenOf:Value->Nat
 | .string b=>b.size
 |_=>0
theorem Qe9 (w:World) (m:Nat) (hm:m<18446744073709551616) (T:TypeId):WordsIn (w.alloc (.cells #[.int .u64 (m:Int)] T)) (some ⟨w.heap.size,0,none⟩) 1 1 [m]:=
 ⟨rfl,Ug _,by omega,fun x hx=>by rw[Uy] at hx;subst hx;exact hm,.inr ⟨w.heap.size,0,rfl,by rw[Uo];omega,fun j x hx=>by
   cases j with
   |zero=>simp only[UI,Un] at hx;subst hx;rw[Ux _ _ _ _ _ _ (Ul _ _)];rfl
   |succ j=>simp at hx⟩⟩
theorem Qr4 (s:ByteArray) (w:World) (hs:s.size<=1300) (ha:Qdr s.data.toList):
 Calls Tryz.prog 236 #[.string s] w (Qbr w (dv s.data.toList)):=by
 have H:=Ua ha;clear ha
 go_enter Tryz.func236,Tryz.ntmps236
 go_wp2_with fail
 go_loopw [0,3] (fun tv wv wr=>∃(t:ByteArray) (pre:LU) (a:OA) (n c:Nat),tv=.string t/\wv=.slice a n c/\s.data.toList=pre++t.data.toList/\WordsIn wr a n c (dig (2^64) (dv pre))/\Bw w wr) (fun tv _ _=>lenOf tv)
 case atStart=>exact ⟨s,[],none,0,0,rfl,rfl,rfl,⟨rfl,Ug _,by omega,fun x hx=>by simp[dv,Q11] at hx,.inl rfl⟩,Uf _ _⟩
 case round=>
  obtain ⟨t,pre,a,n,c,rfl,rfl,P3,hW,hb⟩:=hrel;have B0:t.data.toList.length=t.size:=rfl;have Z1:pre.length+t.size=s.size:=by
   have h1:=congrArg List.length P3;rw[Uj,B0] at h1;exact h1.symm
  by_cases ht:t.size=0
  ·have htI:¬(0:Int)<(t.size:Int):=(by omega);have KZ:t.data.toList=[]:=UH.1 (by rw[B0];exact ht);rw[KZ,TV] at P3;rw[<-P3] at hW;have HE:=Xh2 hW hb;clear hW hb P3 KZ B0
   go_wp2_with fail
   go_ret;exact ⟨a,n,c,rfl,(Xo0 HE),(Xe1 HE)⟩
  ·have htI:(0:Int)<(t.size:Int):=(by omega);obtain ⟨k,hk⟩:∃k,min t.size 19=k:=⟨_,rfl⟩;have Qz:min (t.size:Int) 19=(k:Int):=(by omega);have Z3:1<=k:=(by omega);have hk19:k<=19:=(by omega);have hkt:k<=t.size:=(by omega);obtain ⟨u,hu⟩:∃u:ByteArray,t.extract 0 k=u:=⟨_,rfl⟩;obtain ⟨rest,r9⟩:∃r:ByteArray,t.extract k t.size=r:=⟨_,rfl⟩;have Kl:u.data.toList=t.data.toList.take k:=(by rw[<-hu];exact Qm6 t k);have Ze:rest.data.toList=t.data.toList.drop k:=(by rw[<-r9];exact Qm7 t k);have Wd:u.data.toList.length=k:=(by rw[Kl,Tn,B0];omega);have Kn:rest.size=t.size-k:=by
    have:rest.data.toList.length=rest.size:=rfl;rw[<-this,Ze,Te,B0]
   have R1:Qdr t.data.toList:=fun x hx=>H.out x (by rw[P3];simp[hx]);have hau:Qdr u.data.toList:=fun x hx=>R1 x (by rw[Kl] at hx;exact Ty hx);have WS:Qdr pre:=fun x hx=>H.out x (by rw[P3];simp[hx]);have hp:=Qr3 u.data.toList hau (fun e=>by rw[e] at Wd;simp at Wd;omega) (by omega);have hvu:dv u.data.toList<10^19:=Ue (Qf0 _ hau) (by rw[Wd];exact UR (by decide) hk19);have Y5:dv (pre++u.data.toList)=dv pre*10^k+dv u.data.toList:=(by rw[Qgj,Wd]);have hpu:s.data.toList=(pre++u.data.toList)++rest.data.toList:=(by rw[UO,Kl,Ze,List.take_append_drop];exact P3);obtain ⟨v,hv⟩:∃v,dv u.data.toList=v:=⟨_,rfl⟩;have hvpre:(dig (2^64) (dv pre)).length<=pre.length:=Q2h (by decide) (Ue (Qf0 pre WS) (Xbb (by decide) pre.length));have hn13:n<=1300:=(by rw[<-hW.len];omega);rw[hv] at hp hvu Y5;have e19:(10:Nat)^19=10000000000000000000:=rfl;rw[e19] at hvu;have Jt:v<18446744073709551616:=(by omega);have KD:=fun W=>Tryz.J0l u (by have:u.data.toList.length=u.size:=rfl;omega) v hp W;have hLEN:∀T,T=10^k->(dig (2^64) (dv pre*T)).length<=1302:=fun T hT=>by
    have h1:dv pre*T<10^(pre.length+k):=by
     rw[hT,Tz];exact Xaj (Qf0 pre WS) (Tr (by decide))
    have h2:(dig (2^64) (dv pre*T)).length<=pre.length+k:=Q2h (by decide) (Ue h1 (Xbb (by decide) _));omega
   have HLEN:=Ua hLEN;clear hLEN;have HP:=Xh6 KD Y5 hpu hW hb Kn;clear KD Y5 hpu hW hb Kn hp hv hvpre WS hau R1 Ze Kl P3 B0 e19 hvu hk Wd
   go_wp2_with (refine ((Xo0 HP) _).mono ?_;rintro e w1 ⟨rfl,K4⟩;have C0:Bw wr w1:=by { rcases K4 with rfl|rfl;exact Uf _ _;exact Lib.bytesWorld_below _ _ _ };have K0:=Ua C0;clear K4 C0)
   go_loopw [7,22] (fun tv iv wz=>∃(i T:Nat),tv=.int .u64 (T:Int)/\iv=.int .i64 (i:Int)/\i<=k/\T=10^i/\w1=wz) (fun _ iv _=>k-(intOf iv).toNat)
   case atStart=>exact ⟨0,1,rfl,rfl,Uu _,rfl,rfl⟩
   case round=>
    obtain ⟨i,T,rfl,rfl,hi,hT,rfl⟩:=hrel;have Qv:T<=10000000000000000000:=by
     rw[hT];have h1:(10:Nat)^i<=10^19:=UR (by decide) (by omega);have h2:(10:Nat)^19=10000000000000000000:=rfl;rwa[h2] at h1
    by_cases hlk:i<k
    ·have hlkI:(i:Int)<(k:Int):=(by omega);have hT18:T<=1000000000000000000:=by
      rw[hT];have h1:(10:Nat)^i<=10^18:=UR (by decide) (by omega);have h2:(10:Nat)^18=1000000000000000000:=rfl;rwa[h2] at h1
     obtain ⟨T2,hT2⟩:∃T2,T*10=T2:=⟨_,rfl⟩;have hTI:(T:Int)*10=(T2:Int):=(by omega);have hT2l:(T2:Int)<18446744073709551616:=(by omega);have HT:=Ua (show T2=10^(i+1) by rw[<-hT2,hT,Th]);clear hT hT2 Qv hT18
     go_wp2_with fail
     exact ⟨⟨i+1,T2,rfl,by simp,by omega,HT.out,trivial⟩,by simp only[intOf];omega⟩
    ·obtain rfl:k=i:=(by omega);have hlkI:¬(k:Int)<(k:Int):=(by omega);have hWm:=fun W (o7:Bw wr W)=>Qdt a n c (dig (2^64) (dv pre)) (some ⟨W.heap.size,0,none⟩) 1 1 [T] (W.alloc (.cells #[.int .u64 (T:Int)] 74)) (((Xo3 HP).step o7).step (Ba)) (Qe9 W T (by omega) 74) (by omega) (by decide);have HM:=Ua hWm;have HT:=Ua hT;clear hWm hT
     go_wp2_with (first
      |(go_at_call_of 98 a;refine (HM.out _ K0.out).mono ?_;rintro e w2 ⟨a2,n2,c2,rfl,J7,D0⟩;rw[Q0x (by decide),show val (2^64) [T]=T by simp[val]] at J7;
        have R5:n2<=1302:=by { rw[<-J7.len];exact (HLEN.out T HT.out) };
        have B1:=Xh2 J7 (Below.next0 K0.out (Below.next0 (Ba) D0));clear J7 D0)
      |(refine (Qdl a2 n2 c2 _ (some ⟨w2.heap.size,0,none⟩) 1 1 [v] (w2.alloc (.cells #[.int .u64 (v:Int)] 74)) ((Xo0 B1).step (Ba)) (Qe9 w2 v Jt 74) (by omega) (by decide)).mono ?_;rintro e w3 ⟨a3,n3,c3,rfl,z7,G0⟩;rw[Q0x (by decide),show val (2^64) [v]=v by simp[val]] at z7;
        have D2:=Xh2 z7 (Below.next0 (Xe1 B1) (Below.next0 (Ba) G0));clear z7 G0))
     refine ⟨⟨rest,pre++u.data.toList,a3,n3,c3,rfl,rfl,(Xo2 HP),?_,Below.next0 (Xo4 HP) (Xe1 D2)⟩,?_⟩
     ·rw[(Xo1 HP),<-HT.out];exact (Xo0 D2)
     ·show rest.size<t.size
      have:=(Xe5 HP);omega
theorem Qff (l:LU) (b:UInt8):Lib.hasPrefix l [b]=(match l with|[]=>false|c::_=>decide (c=b))/\Lib.trimPrefix l [b]=(match l with|[]=>[]|c::r=>if c=b then r else c::r):=by
 cases l with
 |nil=>exact ⟨rfl,rfl⟩
 |cons c r=>
  by_cases h:c=b
  ·subst h;simp[Lib.hasPrefix,Lib.trimPrefix]
  ·have h2:¬b=c:=fun e=>h e.symm;simp[Lib.hasPrefix,Lib.trimPrefix,List.isPrefixOf,h,h2]
theorem Qhq (l:LU):Lib.hasPrefix l [45]=(Q15 l).1/\Lib.trimPrefix l [45]=(Q15 l).2:=by
 have h:=Qff l 45;cases l with
 |nil=>exact ⟨by rw[h.1];rfl,by rw[h.2];rfl⟩
 |cons c r=>
  by_cases hc:c=45
  ·rw[h.1,h.2];simp[Q15,hc]
  ·rw[h.1,h.2];simp[Q15,hc]
theorem Qr5 (s:ByteArray) (l:LU) (h:s.data.toList=l):s=⟨l.toArray⟩:=by
 subst h;exact ByteArray.ext (by simp)
theorem Qnn (l:LU) (h:Qdr l) (h0:l≠[]) (hl:l.length<=6):Lib.parseIntB 64 l=.ok (dv l:Int):=by
 have hp:=Qr3 l h h0 (by omega);have hb:dv l<10^6:=Ue (Qf0 l h) (UR (by decide) hl);have e6:(10:Nat)^6=1000000:=rfl;rw[e6] at hb;cases l with
 |nil=>exact absurd rfl h0
 |cons c r=>
  have hc:=h c (by simp);unfold Lib.parseIntB;simp only;rw[Uq (by omega),hp];simp only;have hn:¬c.toNat=45:=by omega
  have e63:(2:Nat)^63=9223372036854775808:=rfl;rw[Uq (by rintro ⟨_,h2⟩;rw[show 64-1=63 from rfl,e63] at h2;omega),Uq (by rintro ⟨h2,_⟩;exact hn h2)];simp[hn]
theorem Q26 {s:ByteArray} {k:Nat} (h:Qxa s k):digN s.data.toList=k:=by
 have h1:=Qbf (s:=s) (at_:=0) (k:=k) (Uu _) h.1 (fun j hj _ hk=>h.2.1 j hj hk) h.2.2;rw[Xaw] at h1;omega
def Q6j (w0:World) (S:LU) (e:Ending) (w':World):Prop:=
 (∃(x:Int) (ok:Bool),e=.returned (.tuple #[.int .i64 x,.bool ok])/\(ok=true/\Q9u S=some x/\-1000000<=x/\x<=1000000∨ok=false/\Q9u S=none))/\Bw w0 w'
theorem Q6j.good {w0 w':World} {S:LU} {x:Int} (h:Q9u S=some x) (h1: -1000000<=x) (h2:x<=1000000) (hb:Bw w0 w'):Q6j w0 S (.returned (.tuple #[.int .i64 x,.bool true])) w':=⟨⟨x,true,rfl,.inl ⟨rfl,h,h1,h2⟩⟩,hb⟩
theorem Q6j.bad {w0 w':World} {S:LU} {x:Int} (h:Q9u S=none) (hb:Bw w0 w'):Q6j w0 S (.returned (.tuple #[.int .i64 x,.bool false])) w':=⟨⟨x,false,rfl,.inr ⟨rfl,h⟩⟩,hb⟩
theorem Qr6 (s:ByteArray) (w:World) (hs:s.size<=281474976710656):
 Calls Tryz.prog 235 #[.string s] w (Q6j w s.data.toList):=by
 have R0:s.data.toList.length=s.size:=rfl
 by_cases h0:s.size=0
 ·have KZ:s.data.toList=[]:=UH.1 (by rw[R0];exact h0);have X3:s=⟨#[]⟩:=Qr5 s [] KZ;subst X3
  go_enter Tryz.func235,Tryz.ntmps235
  go_wp2_with fail
  refine ⟨rfl,.tuple #[.int .i64 0,.bool true],by simp[results,go_sem],Q6j.good rfl (by decide) (by decide) (Uf _ _)⟩
 ·obtain ⟨c,r,hS⟩:∃c r,s.data.toList=c::r:=by
   cases h:s.data.toList with
   |nil=>rw[h] at R0;simp at R0;omega
   |cons c r=>exact ⟨c,r,rfl⟩
  have X3:s=⟨(c::r).toArray⟩:=Qr5 s _ hS;have C1:¬s=⟨#[]⟩:=fun e=>h0 (by rw[e];rfl);have hne2:s.toList.isEmpty=false:=by rw[ByteArray.toList_eq,hS];rfl
  rw[hS];have N1:=fun W=>Tryz.Qzp s ⟨#[112]⟩ W;rw[hS] at N1
  by_cases hp:c=112
  ·subst hp;have QG:=Qff (112::r) 112;simp only[Xa5] at QG;have hq:=Qhq r;have Ze:r.length<=281474976710656:=(by rw[hS] at R0;simp at R0;omega);have VT:∀W,Calls Tryz.prog 233 #[.string s,.string ⟨#[112]⟩] W fun e w'=>e=.returned (.tuple #[.string ⟨r.toArray⟩,.bool true])/\W=w':=fun W=>(N1 W).mono (by
    rintro e w' ⟨rfl,rfl⟩;refine ⟨?_,rfl⟩
    show Ending.returned (.tuple #[.string ⟨(Lib.trimPrefix (112::r) [112]).toArray⟩,.bool (Lib.hasPrefix (112::r) [112])])=_
    rw[QG.1,QG.2];simp)
   obtain ⟨low,t,Zx⟩:∃low t,Q15 r=(low,t):=⟨_,_,rfl⟩;have hc2':∀W,Calls Tryz.prog 233 #[.string ⟨r.toArray⟩,.string ⟨#[45]⟩] W fun e w'=>e=.returned (.tuple #[.string ⟨t.toArray⟩,.bool low])/\W=w':=fun W=>(Tryz.Qzp ⟨r.toArray⟩ ⟨#[45]⟩ W).mono (by
    rintro e w' ⟨rfl,rfl⟩;refine ⟨?_,rfl⟩
    show Ending.returned (.tuple #[.string ⟨(Lib.trimPrefix (r.toArray.toList) [45]).toArray⟩,.bool (Lib.hasPrefix (r.toArray.toList) [45])])=_
    rw[List.toList_toArray,hq.1,hq.2,Zx])
   have Z5:t.length<=r.length:=by
    have h1:(Q15 r).2.length<=r.length:=by
     cases r with
     |nil=>simp[Q15]
     |cons x y=>simp only[Q15];split <;> simp
    rw[Zx] at h1;exact h1
   have X5:Q9u (112::r)=if t.length<1∨6<t.length∨digN t<t.length∨t.headD 0=48 then none else some (if low=true then -(dv t:Int) else (dv t:Int)):=by
    rw[Q9u,Uq (by simp),Zx]
   have HC:=Xh3 VT hc2' X5;obtain ⟨T,hT⟩:∃T:ByteArray,T=⟨t.toArray⟩:=⟨_,rfl⟩;have Jw:T.size=t.length:=(by rw[hT];rfl);have Qv:T.data.toList=t:=(by rw[hT]);rw[<-hT] at HC;have HT:=Xh2 Jw Qv;clear N1 VT hc2' QG hq Zx X5 hT hS X3;have I1:=fun W=>Qpt T W (by omega);obtain ⟨k,hk⟩:∃k,digN t=k:=⟨_,rfl⟩;have QT:=Q8a t;rw[hk] at QT;have HK:=Ua hk;clear hk R0 hs
   by_cases h1:t.length<1
   ·have hTI:(T.size:Int)<1:=(by omega);have hE:Q9u (112::r)=none:=(by rw[(Xe2 HC),Us (.inl h1)]);have HE:=Ua hE;clear hE;clear Jw Qv
    go_enter Tryz.func235,Tryz.ntmps235
    go_wp2_with (first
     |(go_at_call_of 233 (Value.string s);refine ((Xo0 HC) _).mono ?_;rintro e w1 ⟨rfl,rfl⟩)
     |(go_at_call_of 233 (Value.string ⟨r.toArray⟩);refine ((Xo1 HC) _).mono ?_;rintro e w1 ⟨rfl,rfl⟩))
    refine ⟨rfl,.tuple #[.int .i64 0,.bool false],by simp[results,go_sem],Q6j.bad HE.out (Uf _ _)⟩
   ·have hTI:¬(T.size:Int)<1:=by omega
    by_cases h6:6<t.length
    ·have hT6:(6:Int)<(T.size:Int):=(by omega);have hE:Q9u (112::r)=none:=(by rw[(Xe2 HC),Us (.inr (.inl h6))]);have HE:=Ua hE;clear hE;clear Jw Qv
     go_enter Tryz.func235,Tryz.ntmps235
     go_wp2_with (first
      |(go_at_call_of 233 (Value.string s);refine ((Xo0 HC) _).mono ?_;rintro e w1 ⟨rfl,rfl⟩)
      |(go_at_call_of 233 (Value.string ⟨r.toArray⟩);refine ((Xo1 HC) _).mono ?_;rintro e w1 ⟨rfl,rfl⟩))
     refine ⟨rfl,.tuple #[.int .i64 0,.bool false],by simp[results,go_sem],Q6j.bad HE.out (Uf _ _)⟩
    ·have hT6:¬(6:Int)<(T.size:Int):=by omega
     by_cases hkt:k<t.length
     ·have Wu:(k:Int)<(T.size:Int):=(by omega);have hE:Q9u (112::r)=none:=(by rw[(Xe2 HC),Us (.inr (.inr (.inl (by rw[HK.out];exact hkt))))]);have HE:=Ua hE;clear hE;clear Jw Qv
      go_enter Tryz.func235,Tryz.ntmps235
      go_wp2_with (first
       |(go_at_call_of 233 (Value.string s);refine ((Xo0 HC) _).mono ?_;rintro e w1 ⟨rfl,rfl⟩)
       |(go_at_call_of 233 (Value.string ⟨r.toArray⟩);refine ((Xo1 HC) _).mono ?_;rintro e w1 ⟨rfl,rfl⟩)
       |(refine (I1 _).mono ?_;rintro e w2 ⟨⟨k',rfl,d7⟩,D0⟩;obtain rfl:k=k':=by { rw[<-HK.out,<-(Xe1 HT)];exact Q26 d7 };have B1:=Ua D0;clear D0 d7))
      refine ⟨rfl,.tuple #[.int .i64 0,.bool false],by simp[results,go_sem],Q6j.bad HE.out (B1.out)⟩
     ·have Wu:¬(k:Int)<(T.size:Int):=(by omega);have o8:0<T.size:=(by omega);have T8:t.headD 0=(T[0]'o8):=by
       have h:=Qbw (s:=T) (at_:=0) o8;rw[Xaw,(Xe1 HT)] at h;exact h
      by_cases Q3:(T[0]'o8)=48
      ·have QC:(((T[0]'o8).toNat:Int)==48)=true:=(by rw[Q3];rfl);have hE:Q9u (112::r)=none:=(by rw[(Xe2 HC),Us (.inr (.inr (.inr (by rw[T8];exact Q3))))]);have HE:=Ua hE;clear hE;clear Jw Qv
       go_enter Tryz.func235,Tryz.ntmps235
       go_wp2_with (first
        |(go_at_call_of 233 (Value.string s);refine ((Xo0 HC) _).mono ?_;rintro e w1 ⟨rfl,rfl⟩)
        |(go_at_call_of 233 (Value.string ⟨r.toArray⟩);refine ((Xo1 HC) _).mono ?_;rintro e w1 ⟨rfl,rfl⟩)
        |(refine (I1 _).mono ?_;rintro e w2 ⟨⟨k',rfl,d7⟩,D0⟩;obtain rfl:k=k':=by { rw[<-HK.out,<-(Xe1 HT)];exact Q26 d7 };have B1:=Ua D0;clear D0 d7))
       refine ⟨rfl,.tuple #[.int .i64 0,.bool false],by simp[results,go_sem],Q6j.bad HE.out (B1.out)⟩
      ·have QC:(((T[0]'o8).toNat:Int)==48)=false:=(by rw[Ui];intro e;exact Q3 (TM.1 (show (T[0]'o8).toNat=48 by omega)));have P0:Qdr t:=by
        have h:=Q59 t;rw[HK.out,UA (by omega)] at h;exact h
       have hE:=(Xe2 HC);rw[Uq (by rintro (h|h|h|h);exact h1 h;exact h6 h;(rw[HK.out] at h;exact hkt h);(rw[T8] at h;exact Q3 h))] at hE;have hpi:=Qnn t P0 (fun e=>by rw[e] at h1;simp at h1) (by omega);have hdvl:dv t<10^6:=Ue (Qf0 t P0) (UR (by decide) (by omega));have e6:(10:Nat)^6=1000000:=rfl;rw[e6] at hdvl;obtain ⟨x,hx⟩:∃x,dv t=x:=⟨_,rfl⟩;rw[hx] at hE hpi hdvl;have hxI:(x:Int)<=1000000:=(by omega);have KD:=fun W=>Tryz.J0i T (by omega) (x:Int) (by rw[(Xe1 HT)];exact hpi) W;have HP:=Ua KD;clear KD hpi hx hdvl e6 P0 T8 Q3 hkt;cases low
       ·have HE:=Ua (show Q9u (112::r)=some (x:Int) from hE);clear hE;clear Jw Qv
        go_enter Tryz.func235,Tryz.ntmps235
        go_wp2_with (first
         |(go_at_call_of 233 (Value.string s);refine ((Xo0 HC) _).mono ?_;rintro e w1 ⟨rfl,rfl⟩)
         |(go_at_call_of 233 (Value.string ⟨r.toArray⟩);refine ((Xo1 HC) _).mono ?_;rintro e w1 ⟨rfl,rfl⟩)
         |(refine (I1 _).mono ?_;rintro e w2 ⟨⟨k',rfl,d7⟩,D0⟩;obtain rfl:k=k':=by { rw[<-HK.out,<-(Xe1 HT)];exact Q26 d7 };have B1:=Ua D0;clear D0 d7)
         |(refine (HP.out _).mono ?_;rintro e w3 ⟨rfl,Wx⟩;have G0:Bw w2 w3:=by { rcases Wx with rfl|⟨t',rfl⟩;exact Uf _ _;exact Lib.bytesWorld_below _ _ _ };have D2:=Ua G0;clear Wx G0))
        refine ⟨rfl,.tuple #[.int .i64 (x:Int),.bool true],by simp[results,go_sem],Q6j.good HE.out (by omega) hxI (Below.next0 B1.out D2.out)⟩
       ·have HE:=Ua (show Q9u (112::r)=some (-(x:Int)) from hE);clear hE;clear Jw Qv
        go_enter Tryz.func235,Tryz.ntmps235
        go_wp2_with (first
         |(go_at_call_of 233 (Value.string s);refine ((Xo0 HC) _).mono ?_;rintro e w1 ⟨rfl,rfl⟩)
         |(go_at_call_of 233 (Value.string ⟨r.toArray⟩);refine ((Xo1 HC) _).mono ?_;rintro e w1 ⟨rfl,rfl⟩)
         |(refine (I1 _).mono ?_;rintro e w2 ⟨⟨k',rfl,d7⟩,D0⟩;obtain rfl:k=k':=by { rw[<-HK.out,<-(Xe1 HT)];exact Q26 d7 };have B1:=Ua D0;clear D0 d7)
         |(refine (HP.out _).mono ?_;rintro e w3 ⟨rfl,Wx⟩;have G0:Bw w2 w3:=by { rcases Wx with rfl|⟨t',rfl⟩;exact Uf _ _;exact Lib.bytesWorld_below _ _ _ };have D2:=Ua G0;clear Wx G0))
        refine ⟨rfl,.tuple #[.int .i64 (-(x:Int)),.bool true],by simp[results,go_sem],Q6j.good HE.out (by omega) (by omega) (Below.next0 B1.out D2.out)⟩
  ·have QG:=Qff (c::r) 112;simp only[Uq hp] at QG;have Ws:decide (c=112)=false:=UL hp;have VT:∀W,Calls Tryz.prog 233 #[.string s,.string ⟨#[112]⟩] W fun e w'=>e=.returned (.tuple #[.string s,.bool false])/\W=w':=fun W=>(N1 W).mono (by
    rintro e w' ⟨rfl,rfl⟩;refine ⟨?_,rfl⟩
    show Ending.returned (.tuple #[.string ⟨(Lib.trimPrefix (c::r) [112]).toArray⟩,.bool (Lib.hasPrefix (c::r) [112])])=_
    rw[QG.1,QG.2,Ws,<-X3])
   have E1:=fun W=>Tryz.Qzp s ⟨#[45]⟩ W;have hE:Q9u (c::r)=none:=(by rw[Q9u,Us hp]);have HC:=Xh3 VT E1 hE;clear N1 VT E1 QG Ws hE hS X3 R0
   go_enter Tryz.func235,Tryz.ntmps235
   go_wp2_with (first
    |(go_at_call_of 233 (Value.string ⟨#[112]⟩);refine ((Xo0 HC) _).mono ?_;rintro e w1 ⟨rfl,rfl⟩)
    |(go_at_call_of 233 (Value.string ⟨#[45]⟩);refine ((Xo1 HC) _).mono ?_;rintro e w1 ⟨rfl,K4⟩;obtain rfl:=K4.symm))
   refine ⟨rfl,.tuple #[.int .i64 0,.bool false],by simp[results,go_sem],Q6j.bad (Xe2 HC) (Uf _ _)⟩
end Go.Proofs.YtdilmfakkppgpaaGreatDoor
