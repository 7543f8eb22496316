/- Part 10. No condition. -/
import Derived.Lib.ParseIntBCases
import Derived.Lib.AtoiErrMem
import Derived.Test.YtidojbkhlenahaaGreatDoorPkProblemDrawn09
set_option maxRecDepth 100000
set_option maxHeartbeats 16000000
namespace Go.Proofs.YtidojbkhlenahaaGreatDoor
open Go.RowKit WordsM
theorem Qju (B:Nat) (w:World):Below B w w.drew:=⟨rfl,rfl,rfl,Ue _,fun _ _=>rfl⟩
def p4 (E:List Int):P4:=(E.getD 0 0,E.getD 1 0,E.getD 2 0,E.getD 3 0)
theorem Qq9 {E:List Int} (h:E.length<=4):Go.splice [zv 0,zv 0,zv 0,zv 0] 0 (E.map zv)=[zv (p4 E).1,zv (p4 E).2.1,zv (p4 E).2.2.1,zv (p4 E).2.2.2]:=by
 match E,h with
 |[],_=>rfl
 |[_],_=>rfl
 |[_,_],_=>rfl
 |[_,_,_],_=>rfl
 |[_,_,_,_],_=>rfl
 |_::_::_::_::_::_,h=>exact absurd h (by simp)
theorem Qv2 {n:Nat} {E F:List Int} (hE:E.length=n) (hF:F.length=n) (hn:n<=4) (h:p4 E=p4 F):E=F:=by
 unfold p4 at h;simp only[Xa9] at h;obtain ⟨h0,h1,h2,h3⟩:=h
 apply Xbh
 intro j
 by_cases hj:j<n
 ·have e:∀(A:List Int),A.length=n->A[j]?=some (A.getD j 0):=fun A hA=>by
   rw[Tc,Ub (by omega)];rfl
  rw[e E hE,e F hF]
  congr 1
  match j,hj with
  |0,_=>exact h0
  |1,_=>exact h1
  |2,_=>exact h2
  |3,_=>exact h3
  |j+4,hj=>omega
 ·rw[Ta (by omega),Ta (by omega)]
theorem Qyu {E:List Int} (h:∀x∈E,small x):(p4 E).ok:=by
 have e:∀j,small (E.getD j 0):=fun j=>by
  rw[Tc];cases hj:E[j]? with
  |none=>unfold small;simp
  |some x=>exact h x (Ug hj)
 exact ⟨e 0,e 1,e 2,e 3⟩
theorem Qn7 [LT ZK] (nx:Bool) (ex:Int) (ax:OA) (lx cx:Nat) (bx:OA) (mx dx:Nat) (E:List Int) (w:World) (hE:Q0p w bx mx dx E) (h4:E.length<=4) (h0:E≠[]):
 Calls Tryz.prog 186 #[.agg #[.bool nx,.int .i64 ex,.slice ax lx cx,.slice bx mx dx]] w fun r w'=>r=.returned (p4 E).v/\Bw w w':=by
 have P2:=hE.len;have Xp:=Qq9 h4;obtain ⟨⟨a0,a1,a2,a3⟩,hP4⟩:∃P:P4,p4 E=P:=⟨_,rfl⟩;rw[hP4] at Xp⊢;obtain ⟨p,o,rfl,hp,hc⟩:∃p o,bx=some ⟨p,o,none⟩/\p<w.heap.size/\∀(j:Nat) x,E[j]?=some x->w.cell? ⟨p,o+j,none⟩=some (.int .i64 x):=by
  rcases hE.rd with h1|h1
  ·exact absurd h1 h0
  ·exact h1
 have F2:(Tryz.prog.info? 3).map (·.size)=some 1:=by kernel_rfl
 obtain ⟨o1,ho1⟩:∃oo:Obj,oo=.cells #[.bool nx,.int .i64 ex,.slice ax lx cx,.slice (some ⟨p,o,none⟩) mx dx] 98:=⟨_,rfl⟩;obtain ⟨o2,ZE⟩:∃oo:Obj,oo=.cells #[.int .i64 0,.int .i64 0,.int .i64 0,.int .i64 0] 230:=⟨_,rfl⟩;have s1:(w.alloc o1).heap.size=w.heap.size+1:=Ur _ _;have s2:((w.alloc o1).alloc o2).heap.size=w.heap.size+1+1:=by rw[Ur,s1]
 have s3:(((w.alloc o1).alloc o2).alloc o2).heap.size=w.heap.size+1+1+1:=by rw[Ur,s2]
 have b1:Bw w (w.alloc o1):=Ba;have b2:Below (w.alloc o1).heap.size (w.alloc o1) ((w.alloc o1).alloc o2):=Ba;have b3:Below ((w.alloc o1).alloc o2).heap.size ((w.alloc o1).alloc o2) (((w.alloc o1).alloc o2).alloc o2):=Ba;have hX0:Q50 (w.alloc o1) w.heap.size (.bool nx) (.int .i64 ex) (.slice ax lx cx) (.slice (some ⟨p,o,none⟩) mx dx):=by rw[ho1];exact Q50.new _ _ _ _ _ _
 have hX:=(hX0.step b2 (by omega)).step b3 (by omega);have hR0:Q50 ((w.alloc o1).alloc o2) (w.alloc o1).heap.size (.int .i64 0) (.int .i64 0) (.int .i64 0) (.int .i64 0):=by rw[ZE];exact Q50.new _ _ _ _ _ _
 have hR:=hR0.step b3 (by omega);have hP:(((w.alloc o1).alloc o2).alloc o2).heap[w.heap.size+1+1]?=some o2:=by
  have h:=Up ((w.alloc o1).alloc o2) o2;rw[s2] at h;exact h
 rw[s1] at hR;clear hX0 hR0;have hB:=Below.next0 (Below.next0 b1 b2) b3;rw[ho1,ZE] at hX hR hB hP s3;generalize M1:((w.alloc (.cells #[.bool nx,.int .i64 ex,.slice ax lx cx,.slice (some ⟨p,o,none⟩) mx dx] 98)).alloc (.cells #[.int .i64 0,.int .i64 0,.int .i64 0,.int .i64 0] 230)).alloc (.cells #[.int .i64 0,.int .i64 0,.int .i64 0,.int .i64 0] 230)=W0 at hX hR hB hP s3;have x3:=hX.c3;have x3d:W0.drew.cell? ⟨w.heap.size,3,none⟩=some (.slice (some ⟨p,o,none⟩) mx dx):=x3;have hmx:mx<=4:=by omega
 have B7:∀j v,(E.map zv)[j]?=some v->W0.drew.cell? ((⟨p,o,none⟩:Addr).add j)=some v:=fun j v hv=>by
  rw[UI] at hv;cases hx:E[j]? with
  |none=>rw[hx] at hv;cases hv
  |some x=>
   rw[hx] at hv;simp only[UG,Un] at hv;subst hv;have N6:(⟨p,o,none⟩:Addr).add j=⟨p,o+j,none⟩:=(by unfold Addr.add;split <;> simp_all);rw[N6];exact (hB.cell (p:=⟨p,o+j,none⟩) hp).trans (hc j x hx)
 have HC:=Xh8 hX hR hB hP s3 B7 P2 Xp;clear hX hR hB hP s3 s1 s2 b1 b2 b3 ho1 ZE B7 hc hE P2 Xp h0
 go_enter Tryz.func186,Tryz.ntmps186
 go_upto_region 2 with fail
 go_cut [] (fun wx=>wx.heap[w.heap.size+1+1]?=some (.cells #[zv a0,zv a1,zv a2,zv a3] 230 (0,0))/\Below (w.heap.size+1+1) W0 wx)
 case first=>
  go_region_law (
   refine step_copy_splice rfl (.tmp 4) (.tmp 6) 96 96 rfl 3 Tryz.underlying96 F2 (some ⟨w.heap.size+1+1,0,none⟩) (some ⟨p,o,none⟩) 4 4 mx dx rfl rfl (w.heap.size+1+1) 0 [zv 0,zv 0,zv 0,zv 0] 230 (Xo3 HC) (E.map zv) (by rw[UE,(Xo6 HC)];exact (Xax hmx).symm) (fun _=>⟨rfl,⟨p,o,none⟩,rfl,(Xo5 HC)⟩) (by simp;omega) (Qv0 E) (w.heap.size+1+1) W0 (Qju _ _) (Ue _) ?_;intro w4 hh Y2)
  all_goals go_wp2_with fail
  all_goals go_meet
  all_goals exact ⟨by rw[<-(Xe7 HC)];exact hh.out,Y2⟩
 case rest=>
  obtain ⟨hh,Y2⟩:=hcut;have y7:=(Xo1 HC).step Y2 (by omega);have HH:=Ua Y2;have q0:=UL wc (w.heap.size+1+1) 0 _ _ _ hh;have q1:=UL wc (w.heap.size+1+1) 1 _ _ _ hh;have q2:=UL wc (w.heap.size+1+1) 2 _ _ _ hh;have q3:=UL wc (w.heap.size+1+1) 3 _ _ _ hh;simp only[List.getElem?_toArray,UO,List.getElem?_cons_succ,zv] at q0 q1 q2 q3;have d1:=(Uf wc ⟨w.heap.size+1,0,none⟩ ⟨w.heap.size+1,1,none⟩ (.int .i64 a0) (by simp)).trans y7.c1;have d2:=((y7.set0 (.int .i64 a0)).set1 (.int .i64 a1)).c2;have d3:=(((y7.set0 (.int .i64 a0)).set1 (.int .i64 a1)).set2 (.int .i64 a2)).c3;obtain ⟨r0,r1,r2⟩:=y7.cc;have r3:=y7.c3;have t0:=y7.f0;have t1:=y7.f1;have t2:=y7.f2;have t3:=y7.f3;have hS:=y7.store (.int .i64 a0) (.int .i64 a1) (.int .i64 a2) (.int .i64 a3);have HS:=Xh2 hS Y2;clear y7 hS Y2 hh
  go_wp2_with fail
  have hw:=(Xo0 HS);obtain ⟨k0,k1,k2⟩:=hw.cc;have k3:=hw.c3;have X3:=(((((Xo2 HC).trans (show Below w.heap.size W0 wc from ⟨(Xe1 HS).os,(Xe1 HS).tape,(Xe1 HS).output,(Xe1 HS).size,fun k hk=>(Xe1 HS).block k (by omega)⟩)).setCell (p:=⟨w.heap.size+1,0,none⟩) (by show w.heap.size<=w.heap.size+1;omega) (.int .i64 a0)).setCell (p:=⟨w.heap.size+1,1,none⟩) (by show w.heap.size<=w.heap.size+1;omega) (.int .i64 a1)).setCell (p:=⟨w.heap.size+1,2,none⟩) (by show w.heap.size<=w.heap.size+1;omega) (.int .i64 a2)).setCell (p:=⟨w.heap.size+1,3,none⟩) (by show w.heap.size<=w.heap.size+1;omega) (.int .i64 a3);refine ⟨rfl,.agg #[.int .i64 a0,.int .i64 a1,.int .i64 a2,.int .i64 a3],by simp[results,go_sem,k0,k1,k2,k3],rfl,X3⟩
open DecM
theorem Qn8 {s:LU} {j:Nat} (h:j<s.length):Q0n s j=s[j]:=by
 unfold Q0n;rw[Tc,Ub h];rfl
theorem Qe4 {n i:Nat} (hi:i<n):Q1l n (Qav n i):=by
 have hs:=Qgt n i 1 hi;refine ⟨by simp[Qav],fun x hx=>?_,by show (Ql8 n i 1).sum<=8;omega⟩;obtain ⟨j,hj⟩:=US.1 hx;unfold Qav at hj
 by_cases e:i=j
 ·subst e;rw[TI (by simpa using hi)] at hj;injection hj with hj;omega
 ·rw[Te e,TM] at hj
  split at hj
  ·injection hj with hj;omega
  ·cases hj
end Go.Proofs.YtidojbkhlenahaaGreatDoor
namespace Go.Proofs.YtidojbkhlenahaaGreatDoor
open Go.RowKit WordsM
structure Q17 (w:World) (R:Nat) (s:ByteArray) (p m d:Int) (bad:Bool):Prop where
 c0:w.cell? ⟨R,0,none⟩=some (.string s)
 c1:w.cell? ⟨R,1,none⟩=some (.int .i64 p)
 c2:w.cell? ⟨R,2,none⟩=some (.int .i64 m)
 c3:w.cell? ⟨R,3,none⟩=some (.int .i64 d)
 c4:w.cell? ⟨R,4,none⟩=some (.bool bad)
 f0:w.frozen? ⟨R,0,none⟩=false
 f1:w.frozen? ⟨R,1,none⟩=false
 f2:w.frozen? ⟨R,2,none⟩=false
 f3:w.frozen? ⟨R,3,none⟩=false
 f4:w.frozen? ⟨R,4,none⟩=false
 lt:R<w.heap.size
 c5:∀o,5<=o->w.cell? ⟨R,o,none⟩=none
theorem Q17.cc {w:World} {R:Nat} {s:ByteArray} {p m d:Int} {bad:Bool} (h:Q17 w R s p m d bad):w.cell? ⟨R,0,none⟩=some (.string s)/\w.cell? ⟨R,1,none⟩=some (.int .i64 p)/\w.cell? ⟨R,2,none⟩=some (.int .i64 m):=⟨h.c0,h.c1,h.c2⟩
theorem Q17.cf {w:World} {R:Nat} {s:ByteArray} {p m d:Int} {bad:Bool} (h:Q17 w R s p m d bad):w.cell? ⟨R,0,none⟩=some (.string s)/\w.cell? ⟨R,1,none⟩=some (.int .i64 p)/\w.cell? ⟨R,2,none⟩=some (.int .i64 m)/\w.frozen? ⟨R,0,none⟩=false/\w.frozen? ⟨R,1,none⟩=false/\w.frozen? ⟨R,2,none⟩=false:=⟨h.c0,h.c1,h.c2,h.f0,h.f1,h.f2⟩
abbrev OnR (R:Nat):Nat->Prop:=fun k=>k=R
section
variable {w w':World} {R:Nat} {s:ByteArray} {p m d:Int} {bad:Bool}
theorem Q17.step (h:Q17 w R s p m d bad) (hb:Bw w w'):Q17 w' R s p m d bad:=
 ⟨(hb.cell (p:=⟨R,0,none⟩) h.lt).trans h.c0,(hb.cell (p:=⟨R,1,none⟩) h.lt).trans h.c1,(hb.cell (p:=⟨R,2,none⟩) h.lt).trans h.c2,(hb.cell (p:=⟨R,3,none⟩) h.lt).trans h.c3,(hb.cell (p:=⟨R,4,none⟩) h.lt).trans h.c4,
   (hb.frozen (p:=⟨R,0,none⟩) h.lt).trans h.f0,(hb.frozen (p:=⟨R,1,none⟩) h.lt).trans h.f1,(hb.frozen (p:=⟨R,2,none⟩) h.lt).trans h.f2,(hb.frozen (p:=⟨R,3,none⟩) h.lt).trans h.f3,(hb.frozen (p:=⟨R,4,none⟩) h.lt).trans h.f4,Uc h.lt hb.size,fun o ho=>(hb.cell (p:=⟨R,o,none⟩) h.lt).trans (h.c5 o ho)⟩
theorem Q17.drewN (h:Q17 w R s p m d bad) (k:Nat):Q17 (w.drewN k) R s p m d bad:=⟨h.c0,h.c1,h.c2,h.c3,h.c4,h.f0,h.f1,h.f2,h.f3,h.f4,h.lt,h.c5⟩
theorem Q17.drew (h:Q17 w R s p m d bad):Q17 w.drew R s p m d bad:=⟨h.c0,h.c1,h.c2,h.c3,h.c4,h.f0,h.f1,h.f2,h.f3,h.f4,h.lt,h.c5⟩
theorem Q17.setAt (h:Q17 w R s p m d bad) (q:Int):Q17 (w.setCell ⟨R,1,none⟩ (.int .i64 q)) R s q m d bad:=
 ⟨(Uf _ _ _ _ (by simp)).trans h.c0,UF _ _ _ (by rw[h.c1];rfl),(Uf _ _ _ _ (by simp)).trans h.c2,(Uf _ _ _ _ (by simp)).trans h.c3,(Uf _ _ _ _ (by simp)).trans h.c4,
   (Us _ _ _ _).trans h.f0,(Us _ _ _ _).trans h.f1,(Us _ _ _ _).trans h.f2,(Us _ _ _ _).trans h.f3,(Us _ _ _ _).trans h.f4,by rw[Tk];exact h.lt,fun o ho=>(Uf _ _ _ _ (fun e=>by injection e with _ e _;omega)).trans (h.c5 o ho)⟩
theorem Q17.setBad (h:Q17 w R s p m d bad) (q:Bool):Q17 (w.setCell ⟨R,4,none⟩ (.bool q)) R s p m d q:=
 ⟨(Uf _ _ _ _ (by simp)).trans h.c0,(Uf _ _ _ _ (by simp)).trans h.c1,(Uf _ _ _ _ (by simp)).trans h.c2,(Uf _ _ _ _ (by simp)).trans h.c3,UF _ _ _ (by rw[h.c4];rfl),
   (Us _ _ _ _).trans h.f0,(Us _ _ _ _).trans h.f1,(Us _ _ _ _).trans h.f2,(Us _ _ _ _).trans h.f3,(Us _ _ _ _).trans h.f4,by rw[Tk];exact h.lt,fun o ho=>(Uf _ _ _ _ (fun e=>by injection e with _ e _;omega)).trans (h.c5 o ho)⟩
theorem Q86 (w:World) (R o:Nat) (v:Value):Q0l (OnR R) w (w.setCell ⟨R,o,none⟩ v):=Q0l.setCell (OnR R) w rfl v
end
def nxB (s:LU) (p:Nat) (bad:Bool):UInt8:=if bad=true then 0 else Q0n s p
def skS (s:LU) (p:Nat) (bad:Bool):Nat:=if bad=true then p else Q0g s p
theorem Qxr {s:LU} {p:Nat} {bad:Bool} (h:nxB s p bad≠0):bad=false/\p<s.length/\nxB s p bad=Q0n s p:=by
 unfold nxB at h⊢;cases bad
 ·exact ⟨rfl,Qgo (by simpa using h),rfl⟩
 ·exact absurd rfl h
def Qte (fp:Nat->Prop) (a:OA) (L:LN):Prop:=L=[]∨∀x,a=some x->¬fp x.block
theorem WordsIn.turn {w w':World} {fp fq:Nat->Prop} {a:OA} {n c:Nat} {L:LN} (h:WordsIn w a n c L) (ho:Qte fp a L) (ht:Q0l fq w w') (hs:∀k,fq k->fp k):WordsIn w' a n c L:=by
 refine ⟨h.len,h.cap,h.most,h.low,?_⟩;rcases ho with rfl|ho
 ·exact .inl rfl
 rcases h.rd with h0|⟨b,o,rfl,hb,hc⟩
 ·exact .inl h0
 ·exact .inr ⟨b,o,rfl,Uc hb ht.size,fun j x hx=>(ht.cell (p:=⟨b,o+j,none⟩) hb (fun hk=>ho _ rfl (hs _ hk))).trans (hc j x hx)⟩
theorem Qte.more {w:World} {fp fp':Nat->Prop} {a:OA} {n c:Nat} {L:LN} (ho:Qte fp a L) (h:WordsIn w a n c L) (hs:∀k,fp' k->fp k∨w.heap.size<=k):Qte fp' a L:=by
 rcases ho with rfl|ho
 ·exact .inl rfl
 rcases h.rd with h0|⟨b,o,rfl,hb,hc⟩
 ·exact .inl h0
 ·refine .inr fun x hx hk=>?_;injection hx with hx;subst hx;rcases hs _ hk with h1|h1
  ·exact ho _ rfl h1
  ·exact absurd hb (Nat.not_lt_of_le h1)
mutual
def Q3h (fp:Nat->Prop) (w:World):Ex->Value->Prop
 | .num none,v=>∃(b:Bool) (e:Int) (a:OA) (l k:Nat),v=.iface 171 (.agg #[.bool b,.int .i64 e,.slice a l k,.int .i64 2])
 | .num (some c),v=>∃n e a l k L,v=.iface 171 (.agg #[.bool n,.int .i64 e,.slice a l k,.int .i64 0])/\WordsIn w a l k L/\Qte fp a L/\Q0a n e L/\Q2m n e L=c
 | .var i,v=>v=.iface 174 (.agg #[.int .i64 (i:Int)])
 | .sum l,v=>∃a b c d,v=.iface 178 (.agg #[.slice (some ⟨a,0,none⟩) l.length c,.slice (some ⟨b,0,none⟩) l.length d])/\¬fp a/\¬fp b/\a<w.heap.size/\b<w.heap.size/\l.length<=c/\c<=maxLen/\l.length<=d/\d<=maxLen/\l≠[]/\Qe5 fp w a b 0 l
 | .prod l,v=>∃a c,v=.iface 181 (.agg #[.slice (some ⟨a,0,none⟩) l.length c])/\¬fp a/\a<w.heap.size/\l.length<=c/\c<=maxLen/\l≠[]/\Qdb fp w a 0 l
 | .pow x k,v=>∃u,v=.iface 184 (.agg #[u,.int .i64 (k:Int)])/\Q3h fp w x u
def Qe5 (fp:Nat->Prop) (w:World) (a b:Nat) (o:Nat):List (Bool × Ex)->Prop
 |[]=>True
 |(t,x)::r=>(∃u,w.cell? ⟨a,o,none⟩=some u/\Q3h fp w x u)/\w.cell? ⟨b,o,none⟩=some (.bool t)/\Qe5 fp w a b (o+1) r
def Qdb (fp:Nat->Prop) (w:World) (a:Nat) (o:Nat):List Ex->Prop
 |[]=>True
 |x::r=>(∃u,w.cell? ⟨a,o,none⟩=some u/\Q3h fp w x u)/\Qdb fp w a (o+1) r
end
mutual
theorem Q3h.turn {fp fq:Nat->Prop} {w w':World} (ht:Q0l fq w w') (hs:∀k,fq k->fp k):∀{x:Ex} {v:Value},Q3h fp w x v->Q3h fp w' x v
 | .num none,v,h=>by rw[Q3h] at h⊢;exact h
 | .num (some c),v,h=>by
   rw[Q3h] at h⊢;obtain ⟨n,e,a,l,k,L,rfl,h1,h2,h3,h4⟩:=h;exact ⟨n,e,a,l,k,L,rfl,h1.turn h2 ht hs,h2,h3,h4⟩
 | .var i,v,h=>by rw[Q3h] at h⊢;exact h
 | .sum l,v,h=>by
   rw[Q3h] at h⊢;obtain ⟨a,b,c,d,h0,h1,h2,h3,h4,h5,h6,h7,h8,h9,QC⟩:=h;exact ⟨a,b,c,d,h0,h1,h2,Uc h3 ht.size,Uc h4 ht.size,h5,h6,h7,h8,h9,Qe5.turn ht hs (fun hk=>h1 (hs _ hk)) (fun hk=>h2 (hs _ hk)) h3 h4 QC⟩
 | .prod l,v,h=>by
   rw[Q3h] at h⊢;obtain ⟨a,c,h0,h1,h2,h3,h4,h5,h6⟩:=h;exact ⟨a,c,h0,h1,Uc h2 ht.size,h3,h4,h5,Qdb.turn ht hs (fun hk=>h1 (hs _ hk)) h2 h6⟩
 | .pow x k,v,h=>by
   rw[Q3h] at h⊢;obtain ⟨u,h0,h1⟩:=h;exact ⟨u,h0,Q3h.turn ht hs h1⟩
theorem Qe5.turn {fp fq:Nat->Prop} {w w':World} (ht:Q0l fq w w') (hs:∀k,fq k->fp k) {a b:Nat} (ha:¬fq a) (hb:¬fq b) (QF:a<w.heap.size) (D0:b<w.heap.size):∀{l:List (Bool × Ex)} {o:Nat},Qe5 fp w a b o l->Qe5 fp w' a b o l
 |[],_,_=>by rw[Qe5];trivial
 |(t,x)::r,o,h=>by
  rw[Qe5] at h⊢;obtain ⟨⟨u,h1,h2⟩,h3,h4⟩:=h;exact ⟨⟨u,(ht.cell (p:=⟨a,o,none⟩) QF ha).trans h1,Q3h.turn ht hs h2⟩,(ht.cell (p:=⟨b,o,none⟩) D0 hb).trans h3,Qe5.turn ht hs ha hb QF D0 h4⟩
theorem Qdb.turn {fp fq:Nat->Prop} {w w':World} (ht:Q0l fq w w') (hs:∀k,fq k->fp k) {a:Nat} (ha:¬fq a) (QF:a<w.heap.size):∀{l:List Ex} {o:Nat},Qdb fp w a o l->Qdb fp w' a o l
 |[],_,_=>by rw[Qdb];trivial
 |x::r,o,h=>by
  rw[Qdb] at h⊢;obtain ⟨⟨u,h1,h2⟩,h4⟩:=h;exact ⟨⟨u,(ht.cell (p:=⟨a,o,none⟩) QF ha).trans h1,Q3h.turn ht hs h2⟩,Qdb.turn ht hs ha QF h4⟩
end
mutual
theorem Q3h.more {fp fp':Nat->Prop} {w:World} (hs:∀k,fp' k->fp k∨w.heap.size<=k):∀{x:Ex} {v:Value},Q3h fp w x v->Q3h fp' w x v
 | .num none,v,h=>by rw[Q3h] at h⊢;exact h
 | .num (some c),v,h=>by
   rw[Q3h] at h⊢;obtain ⟨n,e,a,l,k,L,rfl,h1,h2,h3,h4⟩:=h;exact ⟨n,e,a,l,k,L,rfl,h1,h2.more h1 hs,h3,h4⟩
 | .var i,v,h=>by rw[Q3h] at h⊢;exact h
 | .sum l,v,h=>by
   rw[Q3h] at h⊢;obtain ⟨a,b,c,d,h0,h1,h2,h3,h4,h5,h6,h7,h8,h9,QC⟩:=h;exact ⟨a,b,c,d,h0,fun hk=>(hs _ hk).elim h1 (Nat.not_le_of_lt h3),fun hk=>(hs _ hk).elim h2 (Nat.not_le_of_lt h4),h3,h4,h5,h6,h7,h8,h9,Qe5.more hs QC⟩
 | .prod l,v,h=>by
   rw[Q3h] at h⊢;obtain ⟨a,c,h0,h1,h2,h3,h4,h5,h6⟩:=h;exact ⟨a,c,h0,fun hk=>(hs _ hk).elim h1 (Nat.not_le_of_lt h2),h2,h3,h4,h5,Qdb.more hs h6⟩
 | .pow x k,v,h=>by
   rw[Q3h] at h⊢;obtain ⟨u,h0,h1⟩:=h;exact ⟨u,h0,Q3h.more hs h1⟩
theorem Qe5.more {fp fp':Nat->Prop} {w:World} (hs:∀k,fp' k->fp k∨w.heap.size<=k) {a b:Nat}:∀{l:List (Bool × Ex)} {o:Nat},Qe5 fp w a b o l->Qe5 fp' w a b o l
 |[],_,_=>by rw[Qe5];trivial
 |(t,x)::r,o,h=>by
  rw[Qe5] at h⊢;obtain ⟨⟨u,h1,h2⟩,h3,h4⟩:=h;exact ⟨⟨u,h1,Q3h.more hs h2⟩,h3,Qe5.more hs h4⟩
theorem Qdb.more {fp fp':Nat->Prop} {w:World} (hs:∀k,fp' k->fp k∨w.heap.size<=k) {a:Nat}:∀{l:List Ex} {o:Nat},Qdb fp w a o l->Qdb fp' w a o l
 |[],_,_=>by rw[Qdb];trivial
 |x::r,o,h=>by
  rw[Qdb] at h⊢;obtain ⟨⟨u,h1,h2⟩,h4⟩:=h;exact ⟨⟨u,h1,Q3h.more hs h2⟩,Qdb.more hs h4⟩
end
theorem Q3h.step {fp:Nat->Prop} {w w':World} {x:Ex} {v:Value} (h:Q3h fp w x v) (hb:Bw w w'):Q3h fp w' x v:=h.turn (Q0l.of_below hb fun _=>False) fun _ h=>h.elim
def Q2c (fp:Nat->Prop) (w:World):List Ex->LV->Prop
 |[],[]=>True
 |x::r,v::s=>Q3h fp w x v/\Q2c fp w r s
 |_,_=>False
theorem Q2c.turn {fp fq:Nat->Prop} {w w':World} (ht:Q0l fq w w') (hs:∀k,fq k->fp k):∀{l:List Ex} {vs:LV},Q2c fp w l vs->Q2c fp w' l vs
 |[],[],h=>h
 |_::_,_::_,h=>⟨h.1.turn ht hs,Q2c.turn ht hs h.2⟩
 |[],_::_,h=>h.elim
 |_::_,[],h=>h.elim
theorem Q2c.more {fp fp':Nat->Prop} {w:World} (hs:∀k,fp' k->fp k∨w.heap.size<=k):∀{l:List Ex} {vs:LV},Q2c fp w l vs->Q2c fp' w l vs
 |[],[],h=>h
 |_::_,_::_,h=>⟨h.1.more hs,Q2c.more hs h.2⟩
 |[],_::_,h=>h.elim
 |_::_,[],h=>h.elim
theorem Q2c.snoc {fp:Nat->Prop} {w:World} {x:Ex} {v:Value} (hx:Q3h fp w x v):∀{l:List Ex} {vs:LV},Q2c fp w l vs->Q2c fp w (l++[x]) (vs++[v])
 |[],[],_=>⟨hx,trivial⟩
 |_::_,_::_,h=>⟨h.1,Q2c.snoc hx h.2⟩
 |[],_::_,h=>h.elim
 |_::_,[],h=>h.elim
theorem Q2c.row {fp:Nat->Prop} {w:World} {g:Nat}:∀{l:List Ex} {vs:LV} (o:Nat),Q2c fp w l vs->(∀(j:Nat) v,vs[j]?=some v->w.cell? ⟨g,o+j,none⟩=some v)->Qdb fp w g o l
 |[],[],_,_,_=>by rw[Qdb];trivial
 |_::_,v::_,o,h,hc=>by
  rw[Qdb];refine ⟨⟨v,by simpa using hc 0 v rfl,h.1⟩,Q2c.row (o+1) h.2 fun j u hu=>?_⟩;have:=hc (j+1) u (by simpa using hu);rwa[show o+(j+1)=o+1+j by omega] at this
 |[],_::_,_,h,_=>h.elim
 |_::_,[],_,h,_=>h.elim
theorem Q2c.rows {fp:Nat->Prop} {w:World} {g b:Nat}:∀{l:List (Bool × Ex)} {vs:LV} (o:Nat),Q2c fp w (l.map (·.2)) vs->(∀(j:Nat) v,vs[j]?=some v->w.cell? ⟨g,o+j,none⟩=some v)->(∀(j:Nat) t,(l.map (·.1))[j]?=some t->w.cell? ⟨b,o+j,none⟩=some (.bool t))->Qe5 fp w g b o l
 |[],[],_,_,_,_=>by rw[Qe5];trivial
 |(t,_)::_,v::_,o,h,hc,hb=>by
  rw[Qe5];refine ⟨⟨v,by simpa using hc 0 v rfl,h.1⟩,by simpa using hb 0 t rfl,Q2c.rows (o+1) h.2 (fun j u hu=>?_) fun j u hu=>?_⟩
  ·have:=hc (j+1) u (by simpa using hu);rwa[show o+(j+1)=o+1+j by omega] at this
  ·have:=hb (j+1) u (by simpa using hu);rwa[show o+(j+1)=o+1+j by omega] at this
 |[],_::_,_,h,_,_=>h.elim
 |_::_,[],_,h,_,_=>h.elim
def Qqa (R:Nat) (s:ByteArray) (m d:Int) (res:PR Ex) (w:World) (e:Ending) (w':World):Prop:=
 ∃t u,e=.returned (.iface t u)/\Q0l (OnR R) w w'/\match res with
  | .ok (x,q)=>Q3h (·<w.heap.size) w' x (.iface t u)/\Q17 w' R s (q:Int) m d false/\q<=s.size
  | .error q=>Q17 w' R s (q:Int) m d true/\q<=s.size
def Q4c (Pr:Value->Prop) (w:World) (B:Nat) (e:TypeId) (k:Nat) (a:OA) (n c:Nat) (xs:LV):Prop:=
 Row w B e k a n c xs/\∀g cur T fr,a=some ⟨g,0,none⟩->w.heap[g]?=some (.cells cur T fr)->∀u∈cur.toList,Pr u
theorem Q4c.nil_ (Pr:Value->Prop) (w:World) (B:Nat) (e:TypeId) (k:Nat):Q4c Pr w B e k none 0 0 []:=⟨Row.nil_ _ _ _ _,fun _ _ _ _ h=>(by cases h)⟩
theorem Q4c.keep {Pr:Value->Prop} {w w':World} {B:Nat} {e:TypeId} {k:Nat} {a:OA} {n c:Nat} {xs:LV} (h:Q4c Pr w B e k a n c xs) (hk:∀x,a=some x->w'.heap[x.block]?=w.heap[x.block]?):Q4c Pr w' B e k a n c xs:=by
 refine ⟨⟨h.1.1,?_⟩,fun g cur T fr ha hh=>h.2 g cur T fr ha ((hk _ ha).symm.trans hh)⟩;rcases h.1.2 with h2|⟨g,cap,cur,hv,hB,hh,hr⟩
 ·exact .inl h2
 ·refine .inr ⟨g,cap,cur,hv,hB,?_,hr⟩;injection hv with e1;exact (hk _ e1).trans hh
theorem Q4c.step {Pr:Value->Prop} {w w':World} {B:Nat} {e:TypeId} {k:Nat} {a:OA} {n c:Nat} {xs:LV} (h:Q4c Pr w B e k a n c xs) (hb:Bw w w'):Q4c Pr w' B e k a n c xs:=
 h.keep fun _ hx=>hb.block _ (row2_lt h.1 hx)
where
 row2_lt {w:World} {B:Nat} {e:TypeId} {k:Nat} {a:OA} {n c:Nat} {xs:LV} (h:Row w B e k a n c xs) {x:Addr} (hx:a=some x):x.block<w.heap.size:=by
  rcases h.form with ⟨h0,_⟩|⟨g,cur,h0,h1,h2,_⟩
  ·rw[h0] at hx;cases hx
  ·rw[h0] at hx;injection hx with hx;subst hx;exact h2
theorem Qfj {z:Array Value} {n:Nat} {u:Value} (h:u∈(Builtin.zeroCells z n).toList):u∈z.toList:=by
 unfold Builtin.zeroCells at h;simp only[Array.toList_map,Array.toList_range,TE,List.mem_range] at h;obtain ⟨i,hi,rfl⟩:=h;have hz:0<z.size:=Nat.pos_of_ne_zero fun e=>by rw[e,Nat.mul_zero] at hi;omega
 have F0:=TH i hz;rw[getElem!_pos z (i%z.size) F0];exact Array.mem_toList_iff.2 (Array.getElem_mem F0)
theorem Qhf (w:World) (g:Nat) (cs:Array Value):w.grownBy (w.setRow g cs) (some g):=⟨rfl,rfl,rfl,by rw[size_setRow];exact Ue _,fun k _ hn=>setRow_other w g k cs (fun e=>hn (by rw[e]))⟩
theorem Q63 {P:Program} (Pr:Value->Prop) (w:World) (t ty e:TypeId) (i:TypeInfo) (z:Value) (k bytes:Nat) (ht:P.underlying t=some (.slice e)) (hi:P.info? e=some i) (hz:i.zero=some z) (F8:i.size=k) (Vu:i.bytes=bytes) (Xk:z.cells.size=k)
 (hzp:∀u∈z.cells.toList,Pr u) (B:Nat) (hB:B<=w.heap.size) (a:OA) (n c:Nat) (xs:LV) (h:Q4c Pr w B e k a n c xs)
 (x0:Addr) (m d:Nat) (news:LV) (hl:news.length=m*k) (G6:∀j u,news[j]?=some u->w.cell? (x0.add j)=some u) (h1:∀u∈news,u.oneCell'=true) (hp:∀u∈news,Pr u)
 (hm:0<m) (hn:n+m<=1000000) (hb:bytes<=1000) (hk:0<k):
 ∃g c' w',(Builtin.append_ #[t,t] ty #[.slice a n c,.slice (some x0) m d]).run P w=.ok (.slice (some ⟨g,0,none⟩) (n+m) c') w'/\Q4c Pr w' B e k (some ⟨g,0,none⟩) (n+m) c' (xs++news)/\w.grownBy w' (a.map (·.block))/\(a=some ⟨g,0,none⟩∨g=w.heap.size):=by
 subst F8;have Yp:(n+m)*bytes<=1000000*1000:=Nat.mul_le_mul hn hb;have WE:m*bytes<=1000000*1000:=Nat.mul_le_mul (by omega) hb;have O6:=h.1.len;have R6:(xs++news).length=(n+m)*i.size:=by rw[Ui,O6,hl,Tj]
 have fresh:∀(cap:Nat),n+m<=cap->cap<=maxLen->Q4c Pr (w.drew.alloc (.cells (xs.toArray++news.toArray++Builtin.zeroCells z.cells (cap-(n+m))) e)) B e i.size (some ⟨w.heap.size,0,none⟩) (n+m) cap (xs++news):=by
  intro cap J1 I1;have hh:(w.drew.alloc (.cells (xs.toArray++news.toArray++Builtin.zeroCells z.cells (cap-(n+m))) e)).heap[w.heap.size]?=some (.cells (xs.toArray++news.toArray++Builtin.zeroCells z.cells (cap-(n+m))) e (0,0)):=Up w.drew _;refine ⟨⟨R6,.inr ⟨w.heap.size,cap,_,rfl,hB,hh,J1,I1,?_,?_⟩⟩,fun g cur T fr hg i8 u hu=>?_⟩
  ·simp only[Array.size_append,List.size_toArray,size_zeroCells,Xk];rw[<-Ui,R6,<-Tj]
   congr 1;omega
  ·simp only[Array.toList_append];rw[List.take_append_of_le_length (by rw[R6];exact Ue _),Uw (by rw[R6];exact Ue _)]
  ·injection hg with hg;injection hg with hg;subst hg;rw[hh] at i8;injection i8 with i8;injection i8 with i8 _ _;subst i8;simp only[Array.toList_append,Tl] at hu;rcases hu with (hu|hu)|hu
   ·rcases h.1.form with ⟨_,_,_,h0⟩|⟨g2,cur2,e2,_,_,YS,_,_,_,i4⟩
    ·rw[h0] at hu;cases hu
    ·refine h.2 g2 cur2 _ _ e2 YS u ?_;rw[<-i4] at hu;exact Td hu
   ·exact hp u hu
   ·exact hzp u (Qfj hu)
 rcases h.1.form with ⟨rfl,rfl,rfl,rfl⟩|⟨g,cur,rfl,hgB,ZP,hh,hnc,E3,B7,i4⟩
 ·have C2:=run_append_nil (P:=P) w t ty e i z ht hi hz x0 m d news hl G6 hm (by omega) (by rw[Vu];omega);have hf:=fresh (grownCap w m 0 e) (by rw[UH];exact grownCap_ge w m 0 e) (grownCap_le_maxLen w m 0 e (by unfold maxLen;omega));refine ⟨w.heap.size,grownCap w m 0 e,_,by rw[UH];exact C2,?_,?_,.inr rfl⟩
  ·simpa using hf
  ·exact ⟨rfl,rfl,rfl,by rw[Ur];exact Xar _,fun k hk _=>(Below.alloc (Ud w.drew.heap.size w.drew) (Ue _) _).block k hk⟩
 ·by_cases Qz:n+m<=c
  ·have K3:n*i.size+news.length<=cur.size:=(by rw[B7,hl,<-Tj];exact UT _ Qz);have C2:=run_append_room (P:=P) w t ty e i ht hi g n c cur hh x0 m d news hl G6 h1 Qz K3;refine ⟨g,c,_,C2,?_,Qhf w g _,.inl rfl⟩;have hh':=setRow_heap w g cur (cur.toList.take (n*i.size)++news++cur.toList.drop (n*i.size+news.length)).toArray e (0,0) hh;refine ⟨⟨R6,.inr ⟨g,c,_,rfl,hgB,hh',Qz,E3,?_,?_⟩⟩,fun g2 cur2 T fr Q2 i8 u hu=>?_⟩
   ·simp only[List.size_toArray,Ui,UR,Th,Xbl];omega
   ·rw[List.toList_toArray,i4,List.take_append_of_le_length (by rw[R6];exact Ue _),Uw (by rw[R6];exact Ue _)]
   ·injection Q2 with Q2;injection Q2 with Q2;subst Q2;rw[hh'] at i8;injection i8 with i8;injection i8 with i8 _ _;subst i8;rw[List.toList_toArray] at hu;rcases Tl.1 hu with hu|hu
    ·rcases Tl.1 hu with hu|hu
     ·exact h.2 g cur _ _ rfl hh u (Td hu)
     ·exact hp u hu
    ·exact h.2 g cur _ _ rfl hh u (Xbg hu)
  ·have holds:∀j v,xs[j]?=some v->w.cell? ((⟨g,0,none⟩:Addr).add j)=some v:=fun j v hv=>by
    have N6:(⟨g,0,none⟩:Addr).add j=⟨g,j,none⟩:=(by unfold Addr.add;split <;> simp_all);rw[N6];obtain ⟨g',e',_,_,hc⟩:=h.1.at_ hv;injection e' with e';injection e' with e';subst e';exact hc
   have Q4:=growslice_fits (need:=n+m) (old:=c) (bytes:=i.bytes) (by omega) (by rw[Vu];omega);have C2:=run_append_grow (P:=P) w t ty e i z ht hi hz ⟨g,0,none⟩ n c xs O6 holds x0 m d news hl G6 (by omega) (by omega) Q4;have hf:=fresh (grownCap w (n+m) c e) (grownCap_ge w (n+m) c e) (grownCap_le_maxLen w (n+m) c e (by unfold maxLen;omega));refine ⟨w.heap.size,grownCap w (n+m) c e,_,C2,hf,?_,.inr rfl⟩;exact ⟨rfl,rfl,rfl,by rw[Ur];exact Xar _,fun k hk _=>(Below.alloc (Ud w.drew.heap.size w.drew) (Ue _) _).block k hk⟩
theorem Q16 {P:Program} (Pr:Value->Prop) (w:World) (t ty e:TypeId) (i:TypeInfo) (z:Value) (k bytes:Nat) (ht:P.underlying t=some (.slice e)) (hi:P.info? e=some i) (hz:i.zero=some z) (F8:i.size=k) (Vu:i.bytes=bytes) (Xk:z.cells.size=k)
 (hzp:∀u∈z.cells.toList,Pr u) (B:Nat) (hB:B<=w.heap.size) (a:OA) (n c:Nat) (xs:LV) (h:Q4c Pr w B e k a n c xs)
 (b m d:Nat) (news:LV) (hl:news.length=m*k) (G6:∀j u,news[j]?=some u->w.cell? ((⟨b,0,none⟩:Addr).add j)=some u) (h1:∀u∈news,u.oneCell'=true) (hp:∀u∈news,Pr u)
 (hm:0<m) (hn:n+m<=1000000) (hb:bytes<=1000) (hk:0<k):
 ∃g c' w',(Builtin.append_ #[t,t] ty #[.slice a n c,.slice (some ⟨b,0,none⟩) m d]).run P w=.ok (.slice (some ⟨g,0,none⟩) (n+m) c') w'/\Q4c Pr w' B e k (some ⟨g,0,none⟩) (n+m) c' (xs++news)/\w.grownBy w' (a.map (·.block))/\(a=some ⟨g,0,none⟩∨g=w.heap.size):=
 Q63 Pr w t ty e i z k bytes ht hi hz F8 Vu Xk hzp B hB a n c xs h ⟨b,0,none⟩ m d news hl G6 h1 hp hm hn hb hk
def NoU (v:Value):Prop:=∀x:Nat,v≠nv .u64 x
theorem Q4c.off {w:World} {B:Nat} {e:TypeId} {k:Nat} {a:OA} {n c:Nat} {xs:LV} (h:Q4c NoU w B e k a n c xs) {aw:OA} {l cw:Nat} {L:LN} (hw:WordsIn w aw l cw L):Qte (fun b=>∃x,a=some x/\x.block=b) aw L:=by
 rcases hw.rd with h0|⟨b,o,rfl,hb,hc⟩
 ·exact .inl h0
 cases L with
 |nil=>exact .inl rfl
 |cons y r=>
  refine .inr fun x hx ⟨z,hz,e⟩=>?_;injection hx with hx;subst hx;have h1:=hc 0 y rfl;rcases h.1.form with ⟨h0,_⟩|⟨g,cur,h0,_,_,hh,_⟩
  ·rw[h0] at hz;cases hz
  ·have hz':=hz;rw[h0] at hz';injection hz' with hz';subst hz';have e:g=b:=e;subst e;rw[UL _ _ _ _ _ _ hh] at h1;exact h.2 g cur _ _ h0 hh _ (Array.mem_toList_iff.2 (Array.mem_of_getElem? h1)) y rfl
theorem Q4c.set {Pr:Value->Prop} {w:World} {B:Nat} {e:TypeId} {k g n c:Nat} {xs:LV} (h:Q4c Pr w B e k (some ⟨g,0,none⟩) n c xs) (i:Nat) {u:Value} (hu:Pr u):Q4c Pr (w.setCell ⟨g,i,none⟩ u) B e k (some ⟨g,0,none⟩) n c (xs.set i u):=by
 refine ⟨h.1.set0 i u,fun g2 cur T fr hg hh v hv=>?_⟩;injection hg with hg;injection hg with hg;subst hg;rcases h.1.form with ⟨h0,_⟩|⟨g',cur',e1,_,_,hh',_⟩
 ·cases h0
 ·injection e1 with e1;injection e1 with e1;subst e1;rw[heap_setCell_same _ _ _ _ _ _ hh'] at hh;injection hh with hh;injection hh with hh _ _;subst hh;rw[Xav] at hv;rcases Xam hv with hv|rfl
  ·exact h.2 _ _ _ _ rfl hh' v hv
  ·exact hu
def Qtf [LT ZK] (w:World) (g o:Nat) (m:Q01):Prop:=∃aw lw cw be oe le ce,w.cell? ⟨g,o,none⟩=some (.bool m.neg)/\w.cell? ⟨g,o+1,none⟩=some (.int .i64 m.exp)/\w.cell? ⟨g,o+2,none⟩=some (.slice aw lw cw)/\w.cell? ⟨g,o+3,none⟩=some (.slice (some ⟨be,oe,none⟩) le ce)/\
 WordsIn w aw lw cw m.ws/\Q0p w (some ⟨be,oe,none⟩) le ce m.es/\be≠g/\be<w.heap.size
theorem Qtf.via [LT ZK] {w w':World} {g g' o:Nat} {m:Q01} (h:Qtf w g o m) (hs:w.heap.size<=w'.heap.size) (hc:∀j,j<4->w'.cell? ⟨g',o+j,none⟩=w.cell? ⟨g,o+j,none⟩) (hw:∀aw lw cw,WordsIn w aw lw cw m.ws->WordsIn w' aw lw cw m.ws) (hi:∀be,be≠g->be<w.heap.size->be≠g'/\w'.heap[be]?=w.heap[be]?):Qtf w' g' o m:=by
 obtain ⟨aw,lw,cw,be,oe,le,ce,h0,h1,h2,h3,h4,h5,h6,h7⟩:=h;obtain ⟨i1,i2⟩:=hi be h6 h7;refine ⟨aw,lw,cw,be,oe,le,ce,(hc 0 (by decide)).trans h0,(hc 1 (by decide)).trans h1,(hc 2 (by decide)).trans h2,(hc 3 (by decide)).trans h3,hw _ _ _ h4,⟨h5.len,h5.cap,h5.most,h5.rng,?_⟩,i1,Uc h7 hs⟩;rcases h5.rd with h8|⟨b,oo,e,hb,Y3⟩
 ·exact .inl h8
 ·injection e with e;injection e with e1 e2;subst e1;subst e2;exact .inr ⟨be,oe,rfl,Uc hb hs,fun j x hx=>(UK (a:=⟨be,oe+j,none⟩) i2).trans (Y3 j x hx)⟩
theorem WordsIn.onBlock {w w':World} {aw:OA} {l c:Nat} {L:LN} (h:WordsIn w aw l c L) (hs:w.heap.size<=w'.heap.size) (mb:Nat) (WE:∀o,w.cell? ⟨mb,o,none⟩=none) (hk:∀k,k<w.heap.size->k≠mb->w'.heap[k]?=w.heap[k]?):WordsIn w' aw l c L:=by
 refine ⟨h.len,h.cap,h.most,h.low,?_⟩;rcases h.rd with h0|⟨b,o,rfl,hb,hc⟩
 ·exact .inl h0
 ·refine .inr ⟨b,o,rfl,Uc hb hs,fun j x hx=>?_⟩;have h1:=hc j x hx;have C1:b≠mb:=fun e=>by subst e;rw[WE] at h1;cases h1
  exact (UK (a:=⟨b,o+j,none⟩) (hk b hb C1)).trans h1
structure Q2f [LT ZK] (B:Nat) (w:World) (a:OA) (n c:Nat) (all:List Q01):Prop where
 row:∃xs,Q4c NoU w B 98 4 a n c xs
 ent:∀j m,all[j]?=some m->∃g,a=some ⟨g,0,none⟩/\Qtf w g (j*4) m
 len:all.length=n
theorem Q2f.nil_ [LT ZK] (B:Nat) (w:World):Q2f B w none 0 0 []:=⟨⟨[],Q4c.nil_ _ _ _ _ _⟩,fun j m h=>by simp at h,rfl⟩
theorem Q2f.lt [LT ZK] {B:Nat} {w:World} {a:OA} {n c:Nat} {all:List Q01} (h:Q2f B w a n c all) {x:Addr} (hx:a=some x):B<=x.block/\x.block<w.heap.size:=by
 obtain ⟨xs,hr⟩:=h.row;exact row2_blk hr.1 hx
where
 row2_blk {w:World} {B k:Nat} {T:TypeId} {a:OA} {n c:Nat} {vs:LV} (h:Row w B T k a n c vs) {x:Addr} (hx:a=some x):B<=x.block/\x.block<w.heap.size:=by
  rcases h.form with ⟨h0,_⟩|⟨g,cur,h0,h1,h2,_⟩
  ·rw[h0] at hx;cases hx
  ·rw[h0] at hx;injection hx with hx;subst hx;exact ⟨h1,h2⟩
theorem Q2f.onBlock [LT ZK] {B:Nat} {w w':World} {a:OA} {n c:Nat} {all:List Q01} (h:Q2f B w a n c all) (hs:w.heap.size<=w'.heap.size) (mb:Nat) (WE:∀o,w.cell? ⟨mb,o,none⟩=none) (ham:∀x,a=some x->x.block≠mb) (hk:∀k,k<w.heap.size->k≠mb->w'.heap[k]?=w.heap[k]?):Q2f B w' a n c all:=by
 obtain ⟨xs,hr⟩:=h.row;refine ⟨⟨xs,hr.keep fun x hx=>hk _ (h.lt hx).2 (ham x hx)⟩,fun j m hm=>?_,h.len⟩;obtain ⟨g,ha,hE⟩:=h.ent j m hm;have hg:=h.lt ha;have J0:∀o,w'.cell? ⟨g,o,none⟩=w.cell? ⟨g,o,none⟩:=fun o=>UK (a:=⟨g,o,none⟩) (hk g hg.2 (ham _ ha));refine ⟨g,ha,?_⟩;obtain ⟨aw,lw,cw,be,oe,le,ce,h0,h1,h2,h3,h4,h5,h6,h7⟩:=hE;have hi5:Q0p w' (some ⟨be,oe,none⟩) le ce m.es:=by
  refine ⟨h5.len,h5.cap,h5.most,h5.rng,?_⟩;rcases h5.rd with h8|⟨b,oo,e,hb,Y3⟩
  ·exact .inl h8
  ·refine .inr ⟨b,oo,e,Uc hb hs,fun i x hx=>?_⟩;have h9:=Y3 i x hx;have C1:b≠mb:=fun e=>by subst e;rw[WE] at h9;cases h9
   exact (UK (a:=⟨b,oo+i,none⟩) (hk b hb C1)).trans h9
 exact ⟨aw,lw,cw,be,oe,le,ce,(J0 _).trans h0,(J0 _).trans h1,(J0 _).trans h2,(J0 _).trans h3,h4.onBlock hs mb WE hk,hi5,h6,Uc h7 hs⟩
theorem Q2f.step [LT ZK] {B:Nat} {w w':World} {a:OA} {n c:Nat} {all:List Q01} (h:Q2f B w a n c all) (hb:Bw w w'):Q2f B w' a n c all:=by
 refine h.onBlock hb.size w.heap.size (fun o=>?_) (fun x hx=>Nat.ne_of_lt (h.lt hx).2) fun k hk _=>hb.block k hk;unfold World.cell?;simp
theorem Q2f.push [LT ZK] {B:Nat} {w w2:World} {a:OA} {n c c2 g:Nat} {all:List Q01} (h:Q2f B w a n c all) {xs xs2:LV} (D6:Q4c NoU w B 98 4 a n c xs) {o:Obj} (Z5:(w.alloc o).grownBy w2 (a.map (·.block))) (J2:a=some ⟨g,0,none⟩∨g=(w.alloc o).heap.size) {m:Q01} {aw:OA} {lw cw be oe le ce:Nat}
 (hr:Q4c NoU w2 B 98 4 (some ⟨g,0,none⟩) (n+1) c2 xs2) (Yu:xs2=xs++[.bool m.neg,.int .i64 m.exp,.slice aw lw cw,.slice (some ⟨be,oe,none⟩) le ce])
 (hw:WordsIn w aw lw cw m.ws) (hi:Q0p w (some ⟨be,oe,none⟩) le ce m.es) (X7:be<w.heap.size) (Q1:∀x,a=some x->x.block≠be):Q2f B w2 (some ⟨g,0,none⟩) (n+1) c2 (all++[m]):=by
 have F2:w.heap.size<=w2.heap.size:=Uj (Xbi (Q0o w o)) Z5.size;have htt:Q0l (fun b=>∃x,a=some x/\x.block=b) w w2:=(Q0l.of_below (Ba) _).trans0 (Q0l.of_grown Z5 fun r hr _=>by
  cases a with
  |none=>simp at hr
  |some y=>simp only[UG,Un] at hr;exact ⟨y,rfl,hr⟩)
 have JA:∀(aw:OA) (lw cw:Nat) (L:LN),WordsIn w aw lw cw L->WordsIn w2 aw lw cw L:=fun aw lw cw L hw=>hw.turn (D6.off hw) htt (fun _ h=>h);have D5:∀k,k<w.heap.size->(∀x,a=some x->x.block≠k)->w2.heap[k]?=w.heap[k]?:=fun k hk hn=>htt.block k hk (fun ⟨x,hx,e⟩=>hn x hx e);have o7:∀k,k<w.heap.size->(∀x,a=some x->x.block≠k)->k≠g:=fun k hk hn e=>by
  subst e;rcases J2 with h1|h1
  ·exact hn _ h1 rfl
  ·rw[Ur] at h1;omega
 have P2:xs.length=n*4:=D6.1.len;have A6:∀i v,xs2[i]?=some v->w2.cell? ⟨g,i,none⟩=some v:=fun i v hv=>hr.1.cell0 hv;refine ⟨⟨xs2,hr⟩,fun j m' B8=>⟨g,rfl,?_⟩,by rw[Ui,h.len];rfl⟩
 by_cases hj:j<n
 ·rw[Tp (by rw[h.len];exact hj)] at B8;obtain ⟨g0,ha,hE⟩:=h.ent j m' B8;refine hE.via F2 (fun i hi4=>?_) (fun _ _ _ h=>JA _ _ _ _ h) fun be C0 D0=>?_
  ·have F0:j*4+i<xs.length:=(by omega);have e1:=A6 (j*4+i) xs[j*4+i] (by rw[Yu,Tp F0,Ub F0]);subst ha;rw[e1,D6.1.cell0 (Ub F0)]
  ·have Vj:∀x,a=some x->x.block≠be:=fun x hx e=>by rw[ha] at hx;injection hx with hx;subst hx;exact C0 e.symm
   exact ⟨o7 be D0 Vj,D5 be D0 Vj⟩
 ·have O9:j=n:=by
   have:=(Uh.1 B8).1;rw[Ui,h.len] at this;simp at this;omega
  subst O9;rw[Tg (by rw[h.len];exact Ue _),h.len,Nat.sub_self] at B8;simp only[UO,Un] at B8;subst B8;have hc:∀i v,[Value.bool m.neg,.int .i64 m.exp,.slice aw lw cw,.slice (some ⟨be,oe,none⟩) le ce][i]?=some v->w2.cell? ⟨g,j*4+i,none⟩=some v:=fun i v hv=>A6 _ _ (by rw[Yu,Tg (by omega),P2,Xas];exact hv);have D0:=D5 be X7 Q1;refine ⟨aw,lw,cw,be,oe,le,ce,hc 0 _ rfl,hc 1 _ rfl,hc 2 _ rfl,hc 3 _ rfl,JA _ _ _ _ hw,⟨hi.len,hi.cap,hi.most,hi.rng,?_⟩,o7 be X7 Q1,Uc X7 F2⟩;rcases hi.rd with h8|⟨b,oo,e,hb,Y3⟩
  ·exact .inl h8
  ·injection e with e;injection e with e1 e2;subst e1;subst e2;exact .inr ⟨be,oe,rfl,Uc hb F2,fun i x hx=>(UK (a:=⟨be,oe+i,none⟩) D0).trans (Y3 i x hx)⟩
theorem Q2f.put [LT ZK] {B:Nat} {w:World} {g n c:Nat} {all:List Q01} (h:Q2f B w (some ⟨g,0,none⟩) n c all) {i:Nat} {m:Q01} (hm:all[i]?=some m) {b:Bool} {e:Int} {aw:OA} {lw cw:Nat} {L:LN} (hw:WordsIn w aw lw cw L):
 Q2f B (((w.setCell ⟨g,i*4,none⟩ (.bool b)).setCell ⟨g,i*4+1,none⟩ (.int .i64 e)).setCell ⟨g,i*4+2,none⟩ (.slice aw lw cw)) (some ⟨g,0,none⟩) n c (all.set i ⟨b,e,L,m.es⟩):=by
 obtain ⟨xs,hr⟩:=h.row;obtain ⟨g',JO,hE⟩:=h.ent i m hm;injection JO with JO;injection JO with JO;subst JO;obtain ⟨aw0,lw0,cw0,be,oe,le,ce,h0,h1,h2,h3,h4,h5,h6,h7⟩:=hE;have ne01:(⟨g,i*4,none⟩:Addr)≠⟨g,i*4+1,none⟩:=by simp
 have d1:(w.setCell ⟨g,i*4,none⟩ (.bool b)).cell? ⟨g,i*4+1,none⟩=some (.int .i64 m.exp):=(Uf _ _ _ _ (by simp)).trans h1;have d2:((w.setCell ⟨g,i*4,none⟩ (.bool b)).setCell ⟨g,i*4+1,none⟩ (.int .i64 e)).cell? ⟨g,i*4+2,none⟩=some (.slice aw0 lw0 cw0):=(Uf _ _ _ _ (by simp)).trans ((Uf _ _ _ _ (by simp)).trans h2);have JA:∀(aw':OA) (lw' cw':Nat) (L':LN),WordsIn w aw' lw' cw' L'->WordsIn (((w.setCell ⟨g,i*4,none⟩ (.bool b)).setCell ⟨g,i*4+1,none⟩ (.int .i64 e)).setCell ⟨g,i*4+2,none⟩ (.slice aw lw cw)) aw' lw' cw' L':=fun _ _ _ _ hw'=>
  ((hw'.set1 h0 (fun _=>by simp[nv]) _).set1 d1 (fun _=>by simp[nv]) _).set1 d2 (fun _=>by simp[nv]) _
 have D5:∀k,k≠g->(((w.setCell ⟨g,i*4,none⟩ (.bool b)).setCell ⟨g,i*4+1,none⟩ (.int .i64 e)).setCell ⟨g,i*4+2,none⟩ (.slice aw lw cw)).heap[k]?=w.heap[k]?:=fun k hk=>(UX _ _ _ _ hk).trans ((UX _ _ _ _ hk).trans (UX _ _ _ _ hk));have hfar:∀o,o≠i*4->o≠i*4+1->o≠i*4+2->(((w.setCell ⟨g,i*4,none⟩ (.bool b)).setCell ⟨g,i*4+1,none⟩ (.int .i64 e)).setCell ⟨g,i*4+2,none⟩ (.slice aw lw cw)).cell? ⟨g,o,none⟩=w.cell? ⟨g,o,none⟩:=fun o a0 a1 a2=>(Uf _ _ _ _ (by simp)).trans ((Uf _ _ _ _ (by simp)).trans (Uf _ _ _ _ (by simp)));refine ⟨⟨_,((hr.set (i*4) (u:=.bool b) (fun _=>by simp[nv])).set (i*4+1) (u:=.int .i64 e) (fun _=>by simp[nv])).set (i*4+2) (u:=.slice aw lw cw) (fun _=>by simp[nv])⟩,fun j m' B8=>⟨g,rfl,?_⟩,by rw[Ti,h.len]⟩
 by_cases hj:j=i
 ·subst hj;rw[TI (Uh.1 hm).1] at B8;injection B8 with B8;subst B8;refine ⟨aw,lw,cw,be,oe,le,ce,?_,?_,?_,?_,JA _ _ _ _ hw,⟨h5.len,h5.cap,h5.most,h5.rng,?_⟩,h6,by simp only[Tk];exact h7⟩
  ·exact (Uf _ _ _ _ (by simp)).trans ((Uf _ _ _ _ (by simp)).trans (UF _ _ _ (by rw[h0];rfl)))
  ·exact (Uf _ _ _ _ (by simp)).trans (UF _ _ _ (by rw[d1];rfl))
  ·exact UF _ _ _ (by rw[d2];rfl)
  ·exact (hfar _ (by omega) (by omega) (by omega)).trans h3
  ·rcases h5.rd with h8|⟨bb,oo,ee,hb,Y3⟩
   ·exact .inl h8
   ·injection ee with ee;injection ee with e1 e2;subst e1;subst e2;exact .inr ⟨be,oe,rfl,by simp only[Tk];exact hb,fun k x hx=>(UK (a:=⟨be,oe+k,none⟩) (D5 be h6)).trans (Y3 k x hx)⟩
 ·rw[Te (fun e=>hj e.symm)] at B8;obtain ⟨g',JO,hE'⟩:=h.ent j m' B8;injection JO with JO;injection JO with JO;subst JO;exact hE'.via (by simp only[Tk];exact Ue _) (fun k hk=>hfar _ (by omega) (by omega) (by omega)) (fun _ _ _ h=>JA _ _ _ _ h) fun be' C0 _=>⟨C0,D5 be' C0⟩
def Qqb (k:Nat) (m:Q01):Prop:=Q1l k m.es/\Q0a m.neg m.exp m.ws
structure Qvz (w:World) (b:Nat) (k:Nat):Prop where
 cell:w.cell? ⟨b,0,none⟩=some (.int .i64 (k:Int))
 lt:b<w.heap.size
theorem Qvz.step {w w':World} {b k:Nat} (h:Qvz w b k) (hb:Bw w w'):Qvz w' b k:=⟨(hb.cell (p:=⟨b,0,none⟩) h.lt).trans h.cell,Uc h.lt hb.size⟩
theorem Qjv [LT ZK] (n:Bool) (e:Int) (a:OA) (l c:Nat) (L:LN) (b:OA) (m d:Nat) (E:List Int) (kb k:Nat) (w:World) (h:WordsIn w a l c L) (hE:Q0p w b m d E) (hk:k<=9223372036854775807) (he: -9223372036854775808<=e) (Q5:e<=9223372036854775807) (hK:Qvz w kb k):
 Calls Tryz.prog 185 #[.agg #[.bool n,.int .i64 e,.slice a l c,.slice b m d],.pointer (some ⟨kb,0,none⟩)] w fun r w'=>r=.returned (.bool (!decide (Q1l k E/\Q0a n e L)))/\Bw w w':=by
 have hX:=Q50.new w (.bool n) (.int .i64 e) (.slice a l c) (.slice b m d) 98;have hb:Bw w (w.alloc (.cells #[.bool n,.int .i64 e,.slice a l c,.slice b m d] 98)):=Ba;have Z7:=Qlf n e a l c L b m d E k _ (h.step hb) (hE.step hb) hk he Q5;have hkc:=(hK.step hb).cell;obtain ⟨dv,Zd⟩:∃dv,decide (Q1l k E/\Q0a n e L)=dv:=⟨_,rfl⟩;rw[Zd] at Z7⊢;generalize hW:w.alloc (.cells #[.bool n,.int .i64 e,.slice a l c,.slice b m d] 98)=W at hX hb Z7 hkc;obtain ⟨x0,x1,x2,x3,_,_,_,_⟩:=id hX;have H:=Xh2 Z7 hb;clear Z7 hb hX h hE
 go_enter Tryz.func185,Tryz.ntmps185
 go_wp2_with (go_at_call_of 92 a;refine (Xo0 H).mono ?_;rintro r w1 ⟨rfl,C0⟩;have HB:=Ua C0;clear C0)
 go_ret;exact ⟨rfl,Below.next0 (Xe1 H) HB.out⟩
theorem Qjw [LT ZK] (a:OA) (n c:Nat) (ms:List Q01) (kb k:Nat) (w:World) (h:Q0k w a n c ms) (X1:∀m∈ms,Qqb k m) (hk:k<=4) (hK:Qvz w kb k):
 Calls Tryz.prog 239 #[.slice a n c,.func (.func 185) #[] #[.pointer (some ⟨kb,0,none⟩)]] w fun r w'=>r=.returned (.int .i64 (-1))/\Bw w w':=by
 have P2:=h.1;subst P2;have E3:=Uj h.2.1 h.2.2.1;have HM:=Xh3 h X1 hK;clear h X1 hK
 go_enter Tryz.func239,Tryz.ntmps239
 go_wp2_with fail
 go_loopw [8] (fun iv wr=>∃i:Nat,iv=.int .i64 (i:Int)/\i<=ms.length/\Bw w wr) (fun iv _=>ms.length-(intOf iv).toNat)
 case atStart=>exact ⟨0,rfl,Uv _,Ud _ _⟩
 case round=>
  obtain ⟨i,rfl,hi,hb⟩:=hrel
  by_cases F0:i<ms.length
  ·have G0:(i:Int)<(ms.length:Int):=(by omega);obtain ⟨m,hm⟩:∃m,ms[i]?=some m:=⟨_,Ub F0⟩;obtain ⟨b0,o0,rfl,Q0,J2⟩:∃b o,a=some ⟨b,o,none⟩/\b<wr.heap.size/\∀j m,ms[j]?=some m->Q74 wr b (o+j*4) m:=by
    rcases ((Xo0 HM).step hb).2.2.2 with h0|h0
    ·rw[h0] at F0;simp at F0
    ·exact h0
   obtain ⟨aw,lw,cw,ae,le,ce,k0,k1,k2,k3,hw,he,K5,Z3⟩:=J2 i m hm;have F1:=Qjv m.neg m.exp aw lw cw m.ws ae le ce m.es kb k wr hw he (by omega) K5 Z3 ((Xe2 HM).step hb);have hf:Qqb k m:=(Xo1 HM) m (Ug hm);rw[UW (show Q1l k m.es/\Q0a m.neg m.exp m.ws from hf)] at F1;have HC:=Xh2 F1 hb;clear F1 hb J2 hw he hm hf
   go_wp2_with (go_at_call_of 185 aw;refine (Xo0 HC).mono ?_;rintro r w1 ⟨rfl,C0⟩;have HB:=Ua C0;clear C0)
   exact ⟨⟨i+1,by simp,by omega,Below.next0 (Xe1 HC) HB.out⟩,by simp only[intOf];omega⟩
  ·have G0:¬((i:Int)<(ms.length:Int)):=(by omega);have HC:=Ua hb;clear hb
   go_wp2_with fail
   go_ret;exact ⟨rfl,HC.out⟩
theorem Qjx [LT ZK] (a:OA) (n c:Nat) (ms:List Q01) (kb k:Nat) (w:World) (h:Q0k w a n c ms) (X1:∀m∈ms,Qqb k m) (hk:k<=4) (hK:Qvz w kb k):
 Calls Tryz.prog 184 #[.slice a n c,.func (.func 185) #[] #[.pointer (some ⟨kb,0,none⟩)]] w fun r w'=>r=.returned (.bool false)/\Bw w w':=by
 have hix:=Qjw a n c ms kb k w h X1 hk hK;have H:=Ua hix;clear hix h X1 hK
 go_enter Tryz.func184,Tryz.ntmps184
 go_wp2_with (go_at_call_of 239 a;refine H.out.mono ?_;rintro r w1 ⟨rfl,C0⟩;have HB:=Ua C0;clear C0)
 go_ret;exact ⟨rfl,HB.out⟩
theorem Qn9 (s:ByteArray) {p:Nat} (h:p<s.size):Q0n s.data.toList p=s[p]'h:=by
 rw[Qn8 (s:=s.data.toList) (j:=p) (by simpa using h)];exact Array.getElem_toList _
theorem Qna (s:ByteArray) {p:Nat} (h:¬p<s.size):Q0n s.data.toList p=0:=by
 unfold Q0n;rw[Tc,Ta (by simpa using h)];rfl
def atOf (w:World) (R:Nat):Nat:=match w.cell? ⟨R,1,none⟩ with|some (.int _ n)=>n.toNat|_=>0
theorem Q17.atOf {w:World} {R:Nat} {s:ByteArray} {p:Nat} {m d:Int} {bad:Bool} (h:Q17 w R s (p:Int) m d bad):atOf w R=p:=by
 unfold Go.Proofs.YtidojbkhlenahaaGreatDoor.atOf;rw[h.c1];simp
theorem Qa9 (fp:Nat->Prop) (w:World) (k:Nat):Q0l fp w (w.drewN k):=(Q0l.refl fp w).drewN k
section
variable {w:World} {R:Nat} {s:ByteArray} {p:Nat} {m d:Int} {bad:Bool}
theorem Qb8 (h:Q17 w R s (p:Int) m d bad) (_hs:s.size<=281474976710656):
 Calls Tryz.prog 181 #[.pointer (some ⟨R,0,none⟩)] w fun e w'=>e=.returned (.int .u8 ((nxB s.data.toList p bad).toNat:Int))/\∃k,w'=w.drewN k:=by
 obtain ⟨c0,c1,c2,c3,c4,_,_,_,_,_,_,_⟩:=id h;clear h;cases bad with
 |true=>
  go_enter Tryz.func181,Tryz.ntmps181
  go_wp2_with fail
  go_quiet (fail)
  go_wp2_with fail
  go_ret;exact ⟨rfl,_,rfl⟩
 |false=>
  by_cases F0:p<s.size
  ·have G0:¬(s.size:Int)<=(p:Int):=(by omega);have Zn:(p:Int)<(s.size:Int):=(by omega);have hv:nxB s.data.toList p false=s[p]'F0:=Qn9 s F0;rw[hv];clear hv
   go_enter Tryz.func181,Tryz.ntmps181
   go_wp2_with fail
   go_quiet (fail)
   go_wp2_with fail
   go_quiet (fail)
   go_wp2_with fail
   go_ret;exact ⟨rfl,_,by rw[Xbj]⟩
  ·have G0:(s.size:Int)<=(p:Int):=(by omega);have hv:nxB s.data.toList p false=0:=Qna s F0;rw[hv];clear hv
   go_enter Tryz.func181,Tryz.ntmps181
   go_wp2_with fail
   go_quiet (fail)
   go_wp2_with fail
   go_ret;exact ⟨rfl,_,rfl⟩
theorem Qhg {p:Int} (h:Q17 w R s p m d bad) (q:Int):
 Calls Tryz.prog 182 #[.pointer (some ⟨R,0,none⟩),.int .i64 q] w fun e w'=>e=.returned (.tuple #[])/\Q17 w' R s (if bad=true then p else q) m d true/\Q0l (OnR R) w w':=by
 obtain ⟨c0,c1,c2,c3,c4,f0,f1,f2,f3,f4,_,_⟩:=id h;have H:=Ua h;clear h;cases bad with
 |true=>
  go_enter Tryz.func182,Tryz.ntmps182
  go_wp2_with fail
  exact ⟨rfl,.tuple #[],by simp[results],rfl,H.out,Q0l.refl _ _⟩
 |false=>
  go_enter Tryz.func182,Tryz.ntmps182
  go_wp2_with fail
  exact ⟨rfl,.tuple #[],by simp[results],rfl,(H.out.setBad true).setAt q,(Q86 _ _ _ _).trans0 (Q86 _ _ _ _)⟩
theorem Qw0 {L:LU} {q:Nat} {bad:Bool} (h:nxB L q bad=32):bad=false/\q<L.length/\skS L (q+1) bad=skS L q bad:=by
 obtain ⟨rfl,h1,h2⟩:=Qxr (s:=L) (p:=q) (bad:=bad) (by rw[h];decide);exact ⟨rfl,h1,by unfold skS;simp only[Xaj,Xbs];exact (Q7w (by rw[<-h2];exact h)).symm⟩
theorem Qqc {L:LU} {q:Nat} {bad:Bool} (h:nxB L q bad≠32):skS L q bad=q:=by
 unfold skS;cases bad
 ·simp only[Xaj,Xbs];exact Q95 (by simpa[nxB] using h)
 ·rfl
theorem Qtg (h:Q17 w R s (p:Int) m d bad) (hp:p<=s.size) (hs:s.size<=281474976710656):
 Calls Tryz.prog 131 #[.pointer (some ⟨R,0,none⟩)] w fun e w'=>e=.returned (.int .u8 ((nxB s.data.toList (skS s.data.toList p bad) bad).toNat:Int))/\Q17 w' R s ((skS s.data.toList p bad:Nat):Int) m d bad/\Q0l (OnR R) w w':=by
 obtain ⟨L,hL⟩:∃L,s.data.toList=L:=⟨_,rfl⟩;have hLs:L.length=s.size:=by rw[<-hL];rfl
 rw[hL];obtain ⟨V,hV⟩:∃V,skS L p bad=V:=⟨_,rfl⟩;rw[hV];have H:=Xh4 h hL hLs hV;clear h hL hLs hV
 go_enter Tryz.func131,Tryz.ntmps131
 go_wp2_with fail
 go_loopw [] (fun wr=>∃q:Nat,q<=s.size/\Q17 wr R s (q:Int) m d bad/\skS L q bad=V/\Q0l (OnR R) w wr) (fun wr=>s.size-atOf wr R)
 case atStart=>exact ⟨p,hp,(Xo0 H),(Xe3 H),Q0l.refl _ _⟩
 case round=>
  obtain ⟨q,hq,hr,hsk,ht⟩:=hrel;obtain ⟨c,hc⟩:∃c,nxB L q bad=c:=⟨_,rfl⟩;have hn:=Qb8 hr hs;rw[(Xo1 H),hc] at hn;have C5:=fun k=>Qb8 (hr.drewN k) hs;rw[(Xo1 H),hc] at C5
  by_cases h32:c=32
  ·subst h32;obtain ⟨YT,F0,R0⟩:=Qw0 hc;have A7:IntKind.i64.wrap ((q:Int)+1)=(q:Int)+1:=(by rw[UY];have:=(Xo2 H);omega);have HN:=Xh6 hn hr hsk ht F0 R0;clear hn C5 hr hsk ht F0 R0 hc YT
   go_wp2_with (refine (Xo0 HN).mono ?_;rintro r w1 ⟨rfl,k,rfl⟩;have c1:=((Xo1 HN).drewN k).c1;have f1:=((Xo1 HN).drewN k).f1)
   have P3:=((Xo1 HN).drewN k).setAt ((q:Int)+1);have P1:Q17 ((wr.drewN k).setCell ⟨R,1,none⟩ (.int .i64 ((q:Int)+1))) R s ((q+1:Nat):Int) m d bad:=P3;refine ⟨⟨q+1,?_,P1,?_,?_⟩,?_⟩
   ·have:=(Xo4 HN);have:=(Xo2 H);omega
   ·rw[(Xe5 HN)];exact (Xo2 HN)
   ·exact ((Xo3 HN).drewN k).trans0 (Q86 _ _ _ _)
   ·have h1:=(Xo1 HN).atOf;have h2:=P1.atOf;have:=(Xo4 HN);have:=(Xo2 H);omega
  ·have C1:((c.toNat:Int)==32)=false:=by
    rw[Uk];intro e
    apply h32
    apply Xa7.1
    have h32n:(32:UInt8).toNat=32:=rfl;omega
   have R0:=Qqc (bad:=bad) (L:=L) (q:=q) (by rw[hc];exact h32);have hqV:q=V:=(by rw[<-hsk,R0]);have HN:=Xh6 hn hr hqV ht hc C5;clear hn hr hsk ht R0 hc hqV C5
   go_wp2_with (first|(refine (Xo0 HN).mono ?_;rintro r w1 ⟨rfl,k,rfl⟩)|(refine ((Xe5 HN) _).mono ?_;rintro r w1 ⟨rfl,k2,rfl⟩))
   go_ret;refine ⟨?_,?_,?_⟩
   ·rw[<-(Xo2 HN),(Xo4 HN)];rfl
   ·rw[<-(Xo2 HN),<-Xbj];exact ((Xo1 HN).drewN k).drewN k2
   ·rw[<-Xbj];exact ((Xo3 HN).drewN k).drewN k2
theorem Qnb (h:Q17 w R s (p:Int) m d bad) (hp:p<=s.size) (hs:s.size<=281474976710656) (lo hi:Int) (E5:0<=lo):
 Calls Tryz.prog 274 #[.pointer (some ⟨R,0,none⟩),.int .i64 lo,.int .i64 hi] w fun e w'=>
  ((bad=false/\lo<=((Q0n s.data.toList p).toNat:Int)-48/\((Q0n s.data.toList p).toNat:Int)-48<=hi/\e=.returned (.int .i64 (((Q0n s.data.toList p).toNat:Int)-48))/\Q17 w' R s ((p+1:Nat):Int) m d false)∨
    (¬(bad=false/\lo<=((Q0n s.data.toList p).toNat:Int)-48/\((Q0n s.data.toList p).toNat:Int)-48<=hi)/\e=.returned (.int .i64 0)/\Q17 w' R s (p:Int) m d true))/\Q0l (OnR R) w w':=by
 obtain ⟨t,ht⟩:∃t:Int,((nxB s.data.toList p bad).toNat:Int)=t:=⟨_,rfl⟩;have I3:0<=t:=by omega
 have X2:t<256:=by have:=(nxB s.data.toList p bad).toNat_lt;omega
 have YO:bad=false->((Q0n s.data.toList p).toNat:Int)=t:=by rintro rfl;exact ht
 have XA:bad=true->t=0:=by rintro rfl;rw[<-ht];rfl
 have hn:=Qb8 h hs;rw[ht] at hn;have A7:=fun (k:Nat) (q:Int)=>Qhg (h.drewN k) q;have YM:IntKind.i64.wrap t=t:=by rw[UY];omega
 have S4:IntKind.i64.wrap (t-48)=t-48:=by rw[UY];omega
 have Z4:IntKind.i64.wrap ((p:Int)+1)=(p:Int)+1:=by rw[UY];omega
 have H:=Xh5 h YO XA hn A7;have WL:(p:Int)<=(s.size:Int):=by omega
 have HS:=Xh6 hs ht I3 X2 E5 WL;clear h YO XA hn A7 hs ht I3 X2 E5 WL hp
 by_cases hl:t-48<lo
 ·have hN:¬(bad=false/\lo<=((Q0n s.data.toList p).toNat:Int)-48/\((Q0n s.data.toList p).toNat:Int)-48<=hi):=fun ⟨hb,h1,_⟩=>by have:=(Xo1 H) hb;omega
  have HN:=Ua hN;clear hN
  go_enter Tryz.func274,Tryz.ntmps274
  go_wp2_with (first
   |(go_at_call_of 181 (Value.pointer (some ⟨R,0,none⟩));refine (Xo3 H).mono ?_;rintro r w1 ⟨rfl,k,rfl⟩;have c1:=((Xo0 H).drewN k).c1)
   |(refine ((Xe4 H) _ _).mono ?_;rintro r w2 ⟨rfl,P1,X2⟩;have HB:=Xh2 P1 X2;clear P1 X2))
  go_ret;refine ⟨.inr ⟨HN.out,rfl,?_⟩,(Qa9 _ _ _).trans0 (Xe1 HB)⟩;have h1:=(Xo0 HB)
  split at h1 <;> exact h1
 ·by_cases hh:hi<t-48
  ·have hN:¬(bad=false/\lo<=((Q0n s.data.toList p).toNat:Int)-48/\((Q0n s.data.toList p).toNat:Int)-48<=hi):=fun ⟨hb,_,h1⟩=>by have:=(Xo1 H) hb;omega
   have HN:=Ua hN;clear hN
   go_enter Tryz.func274,Tryz.ntmps274
   go_wp2_with (first
    |(go_at_call_of 181 (Value.pointer (some ⟨R,0,none⟩));refine (Xo3 H).mono ?_;rintro r w1 ⟨rfl,k,rfl⟩;have c1:=((Xo0 H).drewN k).c1)
    |(refine ((Xe4 H) _ _).mono ?_;rintro r w2 ⟨rfl,P1,X2⟩;have HB:=Xh2 P1 X2;clear P1 X2))
   go_ret;refine ⟨.inr ⟨HN.out,rfl,?_⟩,(Qa9 _ _ _).trans0 (Xe1 HB)⟩;have h1:=(Xo0 HB)
   split at h1 <;> exact h1
  ·have YT:bad=false:=by
    cases bad with
    |false=>rfl
    |true=>have:=(Xo2 H) rfl;have:=HS.out;omega
   subst YT;have HB:=Ua ((Xo1 H) rfl)
   go_enter Tryz.func274,Tryz.ntmps274
   go_wp2_with (first
    |(go_at_call_of 181 (Value.pointer (some ⟨R,0,none⟩));refine (Xo3 H).mono ?_;rintro r w1 ⟨rfl,k,rfl⟩;have c1:=((Xo0 H).drewN k).c1;have f1:=((Xo0 H).drewN k).f1))
   go_ret;refine ⟨.inl ⟨trivial,?_,?_,?_,?_⟩,(Qa9 _ _ _).trans0 (Q86 _ _ _ _)⟩
   ·rw[HB.out];omega
   ·rw[HB.out];omega
   ·rw[HB.out];rfl
   ·exact ((Xo0 H).drewN k).setAt ((p:Int)+1)
theorem Q9j {s:ByteArray} {p:Nat} (hp:p<s.size):s.data.toList.drop p=(s[p]'hp)::s.data.toList.drop (p+1):=by
 rw[UQ (show p<s.data.toList.length from hp)]
 congr 1
theorem Qjy {s:ByteArray} {i:Nat} (hi:i<s.size) (h:48<=(s[i]'hi).toNat/\(s[i]'hi).toNat<=57):Q4f s.data.toList (i+1)=Q4f s.data.toList i:=by
 unfold Q4f;rw[Q9j hi,DecM.digN,Uu h];omega
theorem Q8n {s:ByteArray} {i:Nat} (h:∀hi:i<s.size,¬(48<=(s[i]'hi).toNat/\(s[i]'hi).toNat<=57)):Q4f s.data.toList i=i:=by
 unfold Q4f
 by_cases hi:i<s.size
 ·rw[Q9j hi,DecM.digN,Uq (h hi)];rfl
 ·rw[Tm (by show s.data.toList.length<=i;have:s.data.toList.length=s.size:=rfl;omega)];rfl
theorem Qx6 {p:Int} (h:Q17 w R s p m d bad) (a:Nat) (ha:a<=s.size) (hs:s.size<=281474976710656):
 Calls Tryz.prog 310 #[.pointer (some ⟨R,0,none⟩),.int .i64 (a:Int)] w fun e w'=>e=.returned (.int .i64 ((Q4f s.data.toList a:Nat):Int))/\w=w':=by
 obtain ⟨V,hV⟩:∃V,Q4f s.data.toList a=V:=⟨_,rfl⟩;rw[hV];have c0:=h.c0;have H:=Xh3 hV ha hs;clear h hV ha hs
 go_enter Tryz.func310,Tryz.ntmps310
 go_wp2_with fail
 go_loopw [1] (fun v wr=>∃i:Nat,v=.int .i64 (i:Int)/\i<=s.size/\Q4f s.data.toList i=V/\w=wr) (fun v _=>s.size-(intOf v).toNat)
 case atStart=>exact ⟨a,rfl,(Xo1 H),(Xo0 H),rfl⟩
 case round=>
  obtain ⟨i,rfl,hi,hw,rfl⟩:=hrel;have HW:=Xh2 hi hw;clear hi hw
  by_cases F0:i<s.size
  ·have G0:(i:Int)<(s.size:Int):=by omega
   by_cases x8:(48:Int)<=((s[i]'F0).toNat:Int)
   ·by_cases h57:((s[i]'F0).toNat:Int)<=57
    ·have A7:IntKind.i64.wrap ((i:Int)+1)=(i:Int)+1:=by rw[UY];have:=(Xe2 H);omega
     go_wp2_with fail
     have R0:=Qjy F0 ⟨by omega,by omega⟩;refine ⟨⟨i+1,?_,by omega,R0.trans (Xe1 HW),trivial⟩,?_⟩
     ·exact congrArg (Value.int .i64) (by omega)
     ·simp[intOf];omega
    ·have HV:=Ua (show i=V from by rw[<-(Xe1 HW),Q8n (fun _=>by omega)])
     go_wp2_with fail
     go_ret;exact ⟨show Ending.returned (.int .i64 (i:Int))=_ by rw[HV.out],rfl⟩
   ·have HV:=Ua (show i=V from by rw[<-(Xe1 HW),Q8n (fun _=>by omega)])
    go_wp2_with fail
    go_ret;exact ⟨show Ending.returned (.int .i64 (i:Int))=_ by rw[HV.out],rfl⟩
  ·have G0:¬(i:Int)<(s.size:Int):=(by omega);have HV:=Ua (show i=V from by rw[<-(Xe1 HW),Q8n (fun h=>absurd h F0)])
   go_wp2_with fail
   go_ret;exact ⟨show Ending.returned (.int .i64 (i:Int))=_ by rw[HV.out],rfl⟩
def Qxs (R:Nat) (s:ByteArray) (m d:Int) (X:Except Nat Nat) (w':World):Prop:=match X with| .ok q=>Q17 w' R s (q:Int) m d false/\q<=s.size| .error q=>Q17 w' R s (q:Int) m d true/\q<=s.size
theorem Qnc {L T:LU} {i p:Nat} {c:UInt8} {r:LU} (h:T.drop i=c::r) (hc:Q0n L p=c):Q70 L (T.drop i) p=Q70 L (T.drop (i+1)) (p+1):=by
 have h2:T.drop (i+1)=r:=by rw[<-List.tail_drop,h];rfl
 rw[h2,h,Q70,Uu hc]
theorem Qhh (h:Q17 w R s (p:Int) m d bad) (hp:p<=s.size) (hs:s.size<=281474976710656) (t:ByteArray) (ht:t.size<=281474976710656) (hnz:∀c∈t.data.toList,c≠0) (KF:0<t.size):
 Calls Tryz.prog 129 #[.pointer (some ⟨R,0,none⟩),.string t] w fun e w'=>e=.returned (.tuple #[])/\Q0l (OnR R) w w'/\Qxs R s m d (if bad=true then Except.error p else Q70 s.data.toList t.data.toList p) w':=by
 obtain ⟨X,hX⟩:∃X,(if bad=true then Except.error p else Q70 s.data.toList t.data.toList p)=X:=⟨_,rfl⟩;rw[hX];have H:=Xh7 h hp hs ht hnz hX KF;clear h hp hs ht hnz hX KF
 go_enter Tryz.func129,Tryz.ntmps129
 go_wp2_with fail
 go_loopw [7] (fun v wr=>∃i q:Nat,v=.int .i64 (i:Int)/\i<=t.size/\q<=s.size/\Q17 wr R s (q:Int) m d bad/\(bad=true->i=0/\q=p)/\(bad=false->Q70 s.data.toList (t.data.toList.drop i) q=X)/\Q0l (OnR R) w wr) (fun v _=>t.size-(intOf v).toNat)
 case atStart=>exact ⟨0,p,rfl,Uv _,(Xo1 H),(Xo0 H),fun _=>⟨rfl,rfl⟩,fun hb=>by have:=(Xo5 H);rw[hb] at this;simpa using this,Q0l.refl _ _⟩
 case round=>
  obtain ⟨i,q,rfl,hi,hq,hr,hbt,YT,htn⟩:=hrel
  by_cases F0:i<t.size
  ·have G0:(i:Int)<(t.size:Int):=(by omega);have hn:=fun k=>Qb8 (hr.drewN k) (Xo2 H);have hwg:=fun (k:Nat) (z:Int)=>Qhg (hr.drewN k) z;obtain ⟨c,hc⟩:∃c,nxB s.data.toList q bad=c:=⟨_,rfl⟩;rw[hc] at hn;have HN:=Xh9 hn hr hbt YT htn hc hwg hi hq;clear hn hr hbt YT htn hc hwg hi hq
   by_cases K8:c=(t[i]'F0)
   ·have hbeq:((c.toNat:Int)==((t[i]'F0).toNat:Int))=true:=(by rw[K8];simp);have Jc:((c.toNat:Int) != ((t[i]'F0).toNat:Int))=false:=(by rw[K8];simp);have Q0:bad=false/\q<s.size/\Q0n s.data.toList q=(t[i]'F0):=by
     have h1:=(Xo5 HN);have h2:(t[i]'F0)≠0:=(Xo4 H) _ (by rw[show (t[i]'F0)=t.data.toList[i]'(by exact F0) from (Array.getElem_toList _).symm];exact List.getElem_mem _);obtain ⟨a1,a2,a3⟩:=Qxr (s:=s.data.toList) (p:=q) (bad:=bad) (by rw[h1,K8];exact h2);exact ⟨a1,a2,by rw[<-a3,h1,K8]⟩
    have HB:=Ua Q0;clear Q0 K8;have A7:IntKind.i64.wrap ((i:Int)+1)=(i:Int)+1:=(by rw[UY];have:=(Xo3 H);omega);have hwr2:IntKind.i64.wrap ((q:Int)+1)=(q:Int)+1:=by rw[UY];have:=(Xo2 H);have:=(Xe8 HN);omega
    go_wp2_with fail
    go_quiet (first|(refine Calls.quiet_of ((Xo0 HN) _)))
    have c1:=((Xo1 HN).drewN nq).c1;have f1:=((Xo1 HN).drewN nq).f1
    go_wp2_with fail
    refine ⟨⟨i+1,q+1,?_,by omega,?_,?_,?_,?_,?_⟩,?_⟩
    ·exact congrArg (Value.int .i64) (by omega)
    ·exact (Xo1 HB)
    ·exact ((Xo1 HN).drewN nq).setAt ((q:Int)+1)
    ·intro hb;rw[(Xo0 HB)] at hb;cases hb
    ·intro _;rw[<-(Xo3 HN) (Xo0 HB)];exact (Qnc (Q9j F0) (Xe2 HB)).symm
    ·exact ((Xo4 HN).drewN nq).trans0 (Q86 _ _ _ _)
    ·simp[intOf];omega
   ·have hbeq:((c.toNat:Int)==((t[i]'F0).toNat:Int))=false:=by
     rw[Uk];intro e;exact K8 (Xa7.1 (by omega))
    have Jc:((c.toNat:Int) != ((t[i]'F0).toNat:Int))=true:=(by rw[bne,hbeq];rfl);have HQ:=Ua K8;clear K8
    go_wp2_with fail
    go_quiet (first|(refine Calls.quiet_of ((Xo0 HN) _)))
    have c1:=((Xo1 HN).drewN nq).c1
    go_wp2_with (refine ((Xo6 HN) _ _).mono ?_;rintro r w2 ⟨rfl,P1,X2⟩;have HB:=Xh2 P1 X2;clear P1 X2)
    refine ⟨rfl,.tuple #[],by simp[results],rfl,((Xo4 HN).drewN nq).trans0 (Xe1 HB),?_⟩;have h1:=(Xo0 HB);cases bad with
    |true=>
     obtain ⟨rfl,rfl⟩:=(Xo2 HN) rfl;have hX:=(Xo5 H);rw[Uu rfl] at hX;rw[<-hX];exact ⟨h1,(Xo1 H)⟩
    |false=>
     have hX:=(Xo3 HN) rfl;rw[Q9j F0,Q70,Uq (by
      have h2:=(Xo5 HN);intro e;exact HQ.out (by rw[<-h2,<-e];rfl))] at hX
     rw[<-hX];exact ⟨h1,(Xe8 HN)⟩
  ·have G0:¬(i:Int)<(t.size:Int):=(by omega);have HN:=Xh6 hr hbt YT htn hi hq;clear hr hbt YT htn hi hq
   go_wp2_with fail
   refine ⟨rfl,.tuple #[],by simp[results],rfl,(Xo3 HN),?_⟩;have i6:i=t.size:=(by have:=(Xo4 HN);omega);cases bad with
   |true=>have:=((Xo1 HN) rfl).1;have:=(Xe6 H);omega
   |false=>
    have hX:=(Xo2 HN) rfl;rw[Tm (show t.data.toList.length<=i by have:t.data.toList.length=t.size:=rfl;omega),Q70] at hX;rw[<-hX];exact ⟨(Xo0 HN),(Xe5 HN)⟩
end
open DecM
theorem Qe6:∀(l:LU) (acc k:Nat),Qir l->acc<10^k->k+l.length<=19->Lib.parseUintM 18446744073709551615 acc l=.ok (l.foldl (fun a b=>10*a+(b.toNat-48)) acc)
 |[],acc,k,_,_,_=>rfl
 |c::r,acc,k,h,ha,hk=>by
  have hc:=h c (by simp);rw[Ul] at hk;have h18:acc<10^18:=Uc ha (UN (by decide) (by omega));have h1:acc*10+(c.toNat-48)<10^(k+1):=by rw[Tb];omega
  have h2:(10:Nat)^(k+1)<=10^19:=UN (by decide) (by omega);have e18:(10:Nat)^18=1000000000000000000:=rfl;have e19:(10:Nat)^19=10000000000000000000:=rfl;rw[e18] at h18;rw[e19] at h2;have ih:=Qe6 r (acc*10+(c.toNat-48)) (k+1) (fun x hx=>h x (by simp[hx])) h1 (by omega);rw[Lib.parseUintM,Uu hc,Uq (by omega),Uq (by omega),ih,List.foldl_cons,UB acc 10]
theorem Qqd (l:LU) (h:Qir l) (h0:l≠[]) (hl:l.length<=19):Lib.parseUintB 64 l=.ok (dv l):=by
 unfold Lib.parseUintB;rw[Uq h0];exact Qe6 l 0 0 h (by decide) (by omega)
theorem Qlk (s:ByteArray) (n:Nat):(s.extract 0 n).data.toList=s.data.toList.take n:=by simp
theorem Qll (s:ByteArray) (n:Nat):(s.extract n s.size).data.toList=s.data.toList.drop n:=by
 have hl:s.data.toList.length=s.size:=rfl;simp only[ByteArray.data_extract,Array.toList_extract,List.extract_eq_take_drop];exact Uw (by rw[Th,hl];exact Ue _)
def lenOf:Value->Nat
 | .string b=>b.size
 |_=>0
theorem Qe7 (w:World) (m:Nat) (hm:m<18446744073709551616) (T:TypeId):WordsIn (w.alloc (.cells #[.int .u64 (m:Int)] T)) (some ⟨w.heap.size,0,none⟩) 1 1 [m]:=
 ⟨rfl,Ue _,by omega,fun x hx=>by rw[Uy] at hx;subst hx;exact hm,.inr ⟨w.heap.size,0,rfl,by rw[Ur];omega,fun j x hx=>by
   cases j with
   |zero=>simp only[UO,Un] at hx;subst hx;rw[UL _ _ _ _ _ _ (Up _ _)];rfl
   |succ j=>simp at hx⟩⟩
theorem Qqe (s:ByteArray) (w:World) (hs:s.size<=1300) (ha:Qir s.data.toList):
 Calls Tryz.prog 269 #[.string s] w (Q8z w (dv s.data.toList)):=by
 have H:=Ua ha;clear ha
 go_enter Tryz.func269,Tryz.ntmps269
 go_wp2_with fail
 go_loopw [0,3] (fun tv wv wr=>∃(t:ByteArray) (pre:LU) (a:OA) (n c:Nat),tv=.string t/\wv=.slice a n c/\s.data.toList=pre++t.data.toList/\WordsIn wr a n c (dig (2^64) (dv pre))/\Bw w wr) (fun tv _ _=>lenOf tv)
 case atStart=>exact ⟨s,[],none,0,0,rfl,rfl,rfl,⟨rfl,Ue _,by omega,fun x hx=>by simp[dv,Q14] at hx,.inl rfl⟩,Ud _ _⟩
 case round=>
  obtain ⟨t,pre,a,n,c,rfl,rfl,R2,hW,hb⟩:=hrel;have F0:t.data.toList.length=t.size:=rfl;have F2:pre.length+t.size=s.size:=by
   have h1:=congrArg List.length R2;rw[Ui,F0] at h1;exact h1.symm
  by_cases ht:t.size=0
  ·have htI:¬(0:Int)<(t.size:Int):=(by omega);have JN:t.data.toList=[]:=UC.1 (by rw[F0];exact ht);rw[JN,Xao] at R2;rw[<-R2] at hW;have HE:=Xh2 hW hb;clear hW hb R2 JN F0
   go_wp2_with fail
   go_ret;exact ⟨a,n,c,rfl,(Xo0 HE),(Xe1 HE)⟩
  ·have htI:(0:Int)<(t.size:Int):=(by omega);obtain ⟨k,hk⟩:∃k,min t.size 19=k:=⟨_,rfl⟩;have hmin:min (t.size:Int) 19=(k:Int):=(by omega);have S3:1<=k:=(by omega);have hk19:k<=19:=(by omega);have hkt:k<=t.size:=(by omega);obtain ⟨u,hu⟩:∃u:ByteArray,t.extract 0 k=u:=⟨_,rfl⟩;obtain ⟨rest,M6⟩:∃r:ByteArray,t.extract k t.size=r:=⟨_,rfl⟩;have Vd:u.data.toList=t.data.toList.take k:=(by rw[<-hu];exact Qlk t k);have Xq:rest.data.toList=t.data.toList.drop k:=(by rw[<-M6];exact Qll t k);have hus:u.data.toList.length=k:=(by rw[Vd,UR,F0];omega);have KR:rest.size=t.size-k:=by
    have:rest.data.toList.length=rest.size:=rfl;rw[<-this,Xq,Th,F0]
   have J2:Qir t.data.toList:=fun x hx=>H.out x (by rw[R2];simp[hx]);have hau:Qir u.data.toList:=fun x hx=>J2 x (by rw[Vd] at hx;exact Td hx);have VD:Qir pre:=fun x hx=>H.out x (by rw[R2];simp[hx]);have hp:=Qqd u.data.toList hau (fun e=>by rw[e] at hus;simp at hus;omega) (by omega);have hvu:dv u.data.toList<10^19:=Uc (Qgl _ hau) (by rw[hus];exact UN (by decide) hk19);have o7:dv (pre++u.data.toList)=dv pre*10^k+dv u.data.toList:=(by rw[Qgk,hus]);have hpu:s.data.toList=(pre++u.data.toList)++rest.data.toList:=(by rw[UV,Vd,Xq,Xbc];exact R2);obtain ⟨v,hv⟩:∃v,dv u.data.toList=v:=⟨_,rfl⟩;have hvpre:(dig (2^64) (dv pre)).length<=pre.length:=Q32 (by decide) (Uc (Qgl pre VD) (Xbk (by decide) pre.length));have hn13:n<=1300:=(by rw[<-hW.len];omega);rw[hv] at hp hvu o7;have e19:(10:Nat)^19=10000000000000000000:=rfl;rw[e19] at hvu;have Zk:v<18446744073709551616:=(by omega);have Z9:=fun W=>Tryz.J0t u (by have:u.data.toList.length=u.size:=rfl;omega) v hp W;have hLEN:∀T,T=10^k->(dig (2^64) (dv pre*T)).length<=1302:=fun T hT=>by
    have h1:dv pre*T<10^(pre.length+k):=by
     rw[hT,To];exact TJ (Qgl pre VD) (Tn (by decide))
    have h2:(dig (2^64) (dv pre*T)).length<=pre.length+k:=Q32 (by decide) (Uc h1 (Xbk (by decide) _));omega
   have HLEN:=Ua hLEN;clear hLEN;have HP:=Xh6 Z9 o7 hpu hW hb KR;clear Z9 o7 hpu hW hb KR hp hv hvpre VD hau J2 Xq Vd R2 F0 e19 hvu hk hus
   go_wp2_with (refine ((Xo0 HP) _).mono ?_;rintro e w1 ⟨rfl,S4⟩;have C0:Bw wr w1:=by { rcases S4 with rfl|rfl;exact Ud _ _;exact Lib.bytesWorld_below _ _ _ };have I0:=Ua C0;clear S4 C0)
   go_loopw [7,22] (fun tv iv wz=>∃(i T:Nat),tv=.int .u64 (T:Int)/\iv=.int .i64 (i:Int)/\i<=k/\T=10^i/\w1=wz) (fun _ iv _=>k-(intOf iv).toNat)
   case atStart=>exact ⟨0,1,rfl,rfl,Uv _,rfl,rfl⟩
   case round=>
    obtain ⟨i,T,rfl,rfl,hi,hT,rfl⟩:=hrel;have X8:T<=10000000000000000000:=by
     rw[hT];have h1:(10:Nat)^i<=10^19:=UN (by decide) (by omega);have h2:(10:Nat)^19=10000000000000000000:=rfl;rwa[h2] at h1
    by_cases hlk:i<k
    ·have hlkI:(i:Int)<(k:Int):=(by omega);have hT18:T<=1000000000000000000:=by
      rw[hT];have h1:(10:Nat)^i<=10^18:=UN (by decide) (by omega);have h2:(10:Nat)^18=1000000000000000000:=rfl;rwa[h2] at h1
     obtain ⟨T2,hT2⟩:∃T2,T*10=T2:=⟨_,rfl⟩;have hTI:(T:Int)*10=(T2:Int):=(by omega);have hT2l:(T2:Int)<18446744073709551616:=(by omega);have HT:=Ua (show T2=10^(i+1) by rw[<-hT2,hT,Tb]);clear hT hT2 X8 hT18
     go_wp2_with fail
     exact ⟨⟨i+1,T2,rfl,by simp,by omega,HT.out,trivial⟩,by simp only[intOf];omega⟩
    ·obtain rfl:k=i:=(by omega);have hlkI:¬(k:Int)<(k:Int):=(by omega);have hWm:=fun W (V7:Bw wr W)=>Qmv a n c (dig (2^64) (dv pre)) (some ⟨W.heap.size,0,none⟩) 1 1 [T] (W.alloc (.cells #[.int .u64 (T:Int)] 83)) (((Xo3 HP).step V7).step (Ba)) (Qe7 W T (by omega) 83) (by omega) (by decide);have HM:=Ua hWm;have HT:=Ua hT;clear hWm hT
     go_wp2_with (first
      |(go_at_call_of 296 a;refine (HM.out _ I0.out).mono ?_;rintro e w2 ⟨a2,n2,c2,rfl,i5,D0⟩;rw[Q10 (by decide),show val (2^64) [T]=T by simp[val]] at i5;
        have C5:n2<=1302:=by { rw[<-i5.len];exact (HLEN.out T HT.out) };
        have E1:=Xh2 i5 (Below.next0 I0.out (Below.next0 (Ba) D0));clear i5 D0)
      |(refine (Qdo a2 n2 c2 _ (some ⟨w2.heap.size,0,none⟩) 1 1 [v] (w2.alloc (.cells #[.int .u64 (v:Int)] 83)) ((Xo0 E1).step (Ba)) (Qe7 w2 v Zk 83) (by omega) (by decide)).mono ?_;rintro e w3 ⟨a3,n3,c3,rfl,E9,M0⟩;rw[Q10 (by decide),show val (2^64) [v]=v by simp[val]] at E9;
        have B3:=Xh2 E9 (Below.next0 (Xe1 E1) (Below.next0 (Ba) M0));clear E9 M0))
     refine ⟨⟨rest,pre++u.data.toList,a3,n3,c3,rfl,rfl,(Xo2 HP),?_,Below.next0 (Xo4 HP) (Xe1 B3)⟩,?_⟩
     ·rw[(Xo1 HP),<-HT.out];exact (Xo0 B3)
     ·show rest.size<t.size
      have:=(Xe5 HP);omega
theorem Qjz (l:LU) (b:UInt8):Lib.hasPrefix l [b]=(match l with|[]=>false|c::_=>decide (c=b))/\Lib.trimPrefix l [b]=(match l with|[]=>[]|c::r=>if c=b then r else c::r):=by
 cases l with
 |nil=>exact ⟨rfl,rfl⟩
 |cons c r=>
  by_cases h:c=b
  ·subst h;simp[Lib.hasPrefix,Lib.trimPrefix]
  ·have h2:¬b=c:=fun e=>h e.symm;simp[Lib.hasPrefix,Lib.trimPrefix,List.isPrefixOf,h,h2]
theorem Qhi (l:LU):Lib.hasPrefix l [45]=(Q2r l).1/\Lib.trimPrefix l [45]=(Q2r l).2:=by
 have h:=Qjz l 45;cases l with
 |nil=>exact ⟨by rw[h.1];rfl,by rw[h.2];rfl⟩
 |cons c r=>
  by_cases hc:c=45
  ·rw[h.1,h.2];simp[Q2r,hc]
  ·rw[h.1,h.2];simp[Q2r,hc]
theorem Qqf (s:ByteArray) (l:LU) (h:s.data.toList=l):s=⟨l.toArray⟩:=by
 subst h;exact ByteArray.ext (by simp)
theorem Qnd (l:LU) (h:Qir l) (h0:l≠[]) (hl:l.length<=6):Lib.parseIntB 64 l=.ok (dv l:Int):=by
 have hp:=Qqd l h h0 (by omega);have hb:dv l<10^6:=Uc (Qgl l h) (UN (by decide) hl);have e6:(10:Nat)^6=1000000:=rfl;rw[e6] at hb;cases l with
 |nil=>exact absurd rfl h0
 |cons c r=>
  have hc:=h c (by simp);unfold Lib.parseIntB;simp only;rw[Uq (by omega),hp];simp only;have hn:¬c.toNat=45:=by omega
  have e63:(2:Nat)^63=9223372036854775808:=rfl;rw[Uq (by rintro ⟨_,h2⟩;rw[show 64-1=63 from rfl,e63] at h2;omega),Uq (by rintro ⟨h2,_⟩;exact hn h2)];simp[hn]
theorem Q26 {s:ByteArray} {k:Nat} (h:Qxi s k):digN s.data.toList=k:=by
 have h1:=Qsw (s:=s) (at_:=0) (k:=k) (Uv _) h.1 (fun j hj _ hk=>h.2.1 j hj hk) h.2.2;rw[Xa3] at h1;omega
def Q64 (w0:World) (S:LU) (e:Ending) (w':World):Prop:=
 (∃(x:Int) (ok:Bool),e=.returned (.tuple #[.int .i64 x,.bool ok])/\(ok=true/\Qda S=some x/\-1000000<=x/\x<=1000000∨ok=false/\Qda S=none))/\Bw w0 w'
theorem Q64.good {w0 w':World} {S:LU} {x:Int} (h:Qda S=some x) (h1: -1000000<=x) (h2:x<=1000000) (hb:Bw w0 w'):Q64 w0 S (.returned (.tuple #[.int .i64 x,.bool true])) w':=⟨⟨x,true,rfl,.inl ⟨rfl,h,h1,h2⟩⟩,hb⟩
theorem Q64.bad {w0 w':World} {S:LU} {x:Int} (h:Qda S=none) (hb:Bw w0 w'):Q64 w0 S (.returned (.tuple #[.int .i64 x,.bool false])) w':=⟨⟨x,false,rfl,.inr ⟨rfl,h⟩⟩,hb⟩
theorem Qqg (s:ByteArray) (w:World) (hs:s.size<=281474976710656):
 Calls Tryz.prog 268 #[.string s] w (Q64 w s.data.toList):=by
 have O0:s.data.toList.length=s.size:=rfl
 by_cases h0:s.size=0
 ·have JN:s.data.toList=[]:=UC.1 (by rw[O0];exact h0);have i9:s=⟨#[]⟩:=Qqf s [] JN;subst i9
  go_enter Tryz.func268,Tryz.ntmps268
  go_wp2_with fail
  refine ⟨rfl,.tuple #[.int .i64 0,.bool true],by simp[results,go_sem],Q64.good rfl (by decide) (by decide) (Ud _ _)⟩
 ·obtain ⟨c,r,hS⟩:∃c r,s.data.toList=c::r:=by
   cases h:s.data.toList with
   |nil=>rw[h] at O0;simp at O0;omega
   |cons c r=>exact ⟨c,r,rfl⟩
  have i9:s=⟨(c::r).toArray⟩:=Qqf s _ hS;have C1:¬s=⟨#[]⟩:=fun e=>h0 (by rw[e];rfl);have hne2:s.toList.isEmpty=false:=by rw[ByteArray.toList_eq,hS];rfl
  rw[hS];have J1:=fun W=>Tryz.Qzt s ⟨#[112]⟩ W;rw[hS] at J1
  by_cases hp:c=112
  ·subst hp;have F9:=Qjz (112::r) 112;simp only[if_true] at F9;have hq:=Qhi r;have Xq:r.length<=281474976710656:=(by rw[hS] at O0;simp at O0;omega);have Kv:∀W,Calls Tryz.prog 173 #[.string s,.string ⟨#[112]⟩] W fun e w'=>e=.returned (.tuple #[.string ⟨r.toArray⟩,.bool true])/\W=w':=fun W=>(J1 W).mono (by
    rintro e w' ⟨rfl,rfl⟩;refine ⟨?_,rfl⟩
    show Ending.returned (.tuple #[.string ⟨(Lib.trimPrefix (112::r) [112]).toArray⟩,.bool (Lib.hasPrefix (112::r) [112])])=_
    rw[F9.1,F9.2];simp)
   obtain ⟨low,t,Zc⟩:∃low t,Q2r r=(low,t):=⟨_,_,rfl⟩;have hc2':∀W,Calls Tryz.prog 173 #[.string ⟨r.toArray⟩,.string ⟨#[45]⟩] W fun e w'=>e=.returned (.tuple #[.string ⟨t.toArray⟩,.bool low])/\W=w':=fun W=>(Tryz.Qzt ⟨r.toArray⟩ ⟨#[45]⟩ W).mono (by
    rintro e w' ⟨rfl,rfl⟩;refine ⟨?_,rfl⟩
    show Ending.returned (.tuple #[.string ⟨(Lib.trimPrefix (r.toArray.toList) [45]).toArray⟩,.bool (Lib.hasPrefix (r.toArray.toList) [45])])=_
    rw[List.toList_toArray,hq.1,hq.2,Zc])
   have J6:t.length<=r.length:=by
    have h1:(Q2r r).2.length<=r.length:=by
     cases r with
     |nil=>simp[Q2r]
     |cons x y=>simp only[Q2r];split <;> simp
    rw[Zc] at h1;exact h1
   have S6:Qda (112::r)=if t.length<1∨6<t.length∨digN t<t.length∨t.headD 0=48 then none else some (if low=true then -(dv t:Int) else (dv t:Int)):=by
    rw[Qda,Uq (by simp),Zc]
   have HC:=Xh3 Kv hc2' S6;obtain ⟨T,hT⟩:∃T:ByteArray,T=⟨t.toArray⟩:=⟨_,rfl⟩;have Ju:T.size=t.length:=(by rw[hT];rfl);have X8:T.data.toList=t:=(by rw[hT]);rw[<-hT] at HC;have HT:=Xh2 Ju X8;clear J1 Kv hc2' F9 hq Zc S6 hT hS i9;have C2:=fun W=>Qpr T W (by omega);obtain ⟨k,hk⟩:∃k,digN t=k:=⟨_,rfl⟩;have M9:=Qew t;rw[hk] at M9;have HK:=Ua hk;clear hk O0 hs
   by_cases h1:t.length<1
   ·have hTI:(T.size:Int)<1:=(by omega);have hE:Qda (112::r)=none:=(by rw[(Xe2 HC),Uu (.inl h1)]);have HE:=Ua hE;clear hE;clear Ju X8
    go_enter Tryz.func268,Tryz.ntmps268
    go_wp2_with (first
     |(go_at_call_of 173 (Value.string s);refine ((Xo0 HC) _).mono ?_;rintro e w1 ⟨rfl,rfl⟩)
     |(go_at_call_of 173 (Value.string ⟨r.toArray⟩);refine ((Xo1 HC) _).mono ?_;rintro e w1 ⟨rfl,rfl⟩))
    refine ⟨rfl,.tuple #[.int .i64 0,.bool false],by simp[results,go_sem],Q64.bad HE.out (Ud _ _)⟩
   ·have hTI:¬(T.size:Int)<1:=by omega
    by_cases h6:6<t.length
    ·have hT6:(6:Int)<(T.size:Int):=(by omega);have hE:Qda (112::r)=none:=(by rw[(Xe2 HC),Uu (.inr (.inl h6))]);have HE:=Ua hE;clear hE;clear Ju X8
     go_enter Tryz.func268,Tryz.ntmps268
     go_wp2_with (first
      |(go_at_call_of 173 (Value.string s);refine ((Xo0 HC) _).mono ?_;rintro e w1 ⟨rfl,rfl⟩)
      |(go_at_call_of 173 (Value.string ⟨r.toArray⟩);refine ((Xo1 HC) _).mono ?_;rintro e w1 ⟨rfl,rfl⟩))
     refine ⟨rfl,.tuple #[.int .i64 0,.bool false],by simp[results,go_sem],Q64.bad HE.out (Ud _ _)⟩
    ·have hT6:¬(6:Int)<(T.size:Int):=by omega
     by_cases hkt:k<t.length
     ·have XY:(k:Int)<(T.size:Int):=(by omega);have hE:Qda (112::r)=none:=(by rw[(Xe2 HC),Uu (.inr (.inr (.inl (by rw[HK.out];exact hkt))))]);have HE:=Ua hE;clear hE;clear Ju X8
      go_enter Tryz.func268,Tryz.ntmps268
      go_wp2_with (first
       |(go_at_call_of 173 (Value.string s);refine ((Xo0 HC) _).mono ?_;rintro e w1 ⟨rfl,rfl⟩)
       |(go_at_call_of 173 (Value.string ⟨r.toArray⟩);refine ((Xo1 HC) _).mono ?_;rintro e w1 ⟨rfl,rfl⟩)
       |(refine (C2 _).mono ?_;rintro e w2 ⟨⟨k',rfl,E7⟩,D0⟩;obtain rfl:k=k':=by { rw[<-HK.out,<-(Xe1 HT)];exact Q26 E7 };have E1:=Ua D0;clear D0 E7))
      refine ⟨rfl,.tuple #[.int .i64 0,.bool false],by simp[results,go_sem],Q64.bad HE.out (E1.out)⟩
     ·have XY:¬(k:Int)<(T.size:Int):=(by omega);have I8:0<T.size:=(by omega);have Qa:t.headD 0=(T[0]'I8):=by
       have h:=Qps (s:=T) (at_:=0) I8;rw[Xa3,(Xe1 HT)] at h;exact h
      by_cases x8:(T[0]'I8)=48
      ·have Xy:(((T[0]'I8).toNat:Int)==48)=true:=(by rw[x8];rfl);have hE:Qda (112::r)=none:=(by rw[(Xe2 HC),Uu (.inr (.inr (.inr (by rw[Qa];exact x8))))]);have HE:=Ua hE;clear hE;clear Ju X8
       go_enter Tryz.func268,Tryz.ntmps268
       go_wp2_with (first
        |(go_at_call_of 173 (Value.string s);refine ((Xo0 HC) _).mono ?_;rintro e w1 ⟨rfl,rfl⟩)
        |(go_at_call_of 173 (Value.string ⟨r.toArray⟩);refine ((Xo1 HC) _).mono ?_;rintro e w1 ⟨rfl,rfl⟩)
        |(refine (C2 _).mono ?_;rintro e w2 ⟨⟨k',rfl,E7⟩,D0⟩;obtain rfl:k=k':=by { rw[<-HK.out,<-(Xe1 HT)];exact Q26 E7 };have E1:=Ua D0;clear D0 E7))
       refine ⟨rfl,.tuple #[.int .i64 0,.bool false],by simp[results,go_sem],Q64.bad HE.out (E1.out)⟩
      ·have Xy:(((T[0]'I8).toNat:Int)==48)=false:=(by rw[Uk];intro e;exact x8 (Xa7.1 (show (T[0]'I8).toNat=48 by omega)));have A1:Qir t:=by
        have h:=Q93 t;rw[HK.out,Uw (by omega)] at h;exact h
       have hE:=(Xe2 HC);rw[Uq (by rintro (h|h|h|h);exact h1 h;exact h6 h;(rw[HK.out] at h;exact hkt h);(rw[Qa] at h;exact x8 h))] at hE;have hpi:=Qnd t A1 (fun e=>by rw[e] at h1;simp at h1) (by omega);have hdvl:dv t<10^6:=Uc (Qgl t A1) (UN (by decide) (by omega));have e6:(10:Nat)^6=1000000:=rfl;rw[e6] at hdvl;obtain ⟨x,hx⟩:∃x,dv t=x:=⟨_,rfl⟩;rw[hx] at hE hpi hdvl;have hxI:(x:Int)<=1000000:=(by omega);have Z9:=fun W=>Tryz.J0q T (by omega) (x:Int) (by rw[(Xe1 HT)];exact hpi) W;have HP:=Ua Z9;clear Z9 hpi hx hdvl e6 A1 Qa x8 hkt;cases low
       ·have HE:=Ua (show Qda (112::r)=some (x:Int) from hE);clear hE;clear Ju X8
        go_enter Tryz.func268,Tryz.ntmps268
        go_wp2_with (first
         |(go_at_call_of 173 (Value.string s);refine ((Xo0 HC) _).mono ?_;rintro e w1 ⟨rfl,rfl⟩)
         |(go_at_call_of 173 (Value.string ⟨r.toArray⟩);refine ((Xo1 HC) _).mono ?_;rintro e w1 ⟨rfl,rfl⟩)
         |(refine (C2 _).mono ?_;rintro e w2 ⟨⟨k',rfl,E7⟩,D0⟩;obtain rfl:k=k':=by { rw[<-HK.out,<-(Xe1 HT)];exact Q26 E7 };have E1:=Ua D0;clear D0 E7)
         |(refine (HP.out _).mono ?_;rintro e w3 ⟨rfl,Zp⟩;have M0:Bw w2 w3:=by { rcases Zp with rfl|⟨t',rfl⟩;exact Ud _ _;exact Lib.bytesWorld_below _ _ _ };have B3:=Ua M0;clear Zp M0))
        refine ⟨rfl,.tuple #[.int .i64 (x:Int),.bool true],by simp[results,go_sem],Q64.good HE.out (by omega) hxI (Below.next0 E1.out B3.out)⟩
       ·have HE:=Ua (show Qda (112::r)=some (-(x:Int)) from hE);clear hE;clear Ju X8
        go_enter Tryz.func268,Tryz.ntmps268
        go_wp2_with (first
         |(go_at_call_of 173 (Value.string s);refine ((Xo0 HC) _).mono ?_;rintro e w1 ⟨rfl,rfl⟩)
         |(go_at_call_of 173 (Value.string ⟨r.toArray⟩);refine ((Xo1 HC) _).mono ?_;rintro e w1 ⟨rfl,rfl⟩)
         |(refine (C2 _).mono ?_;rintro e w2 ⟨⟨k',rfl,E7⟩,D0⟩;obtain rfl:k=k':=by { rw[<-HK.out,<-(Xe1 HT)];exact Q26 E7 };have E1:=Ua D0;clear D0 E7)
         |(refine (HP.out _).mono ?_;rintro e w3 ⟨rfl,Zp⟩;have M0:Bw w2 w3:=by { rcases Zp with rfl|⟨t',rfl⟩;exact Ud _ _;exact Lib.bytesWorld_below _ _ _ };have B3:=Ua M0;clear Zp M0))
        refine ⟨rfl,.tuple #[.int .i64 (-(x:Int)),.bool true],by simp[results,go_sem],Q64.good HE.out (by omega) (by omega) (Below.next0 E1.out B3.out)⟩
  ·have F9:=Qjz (c::r) 112;simp only[Uq hp] at F9;have Ve:decide (c=112)=false:=UU hp;have Kv:∀W,Calls Tryz.prog 173 #[.string s,.string ⟨#[112]⟩] W fun e w'=>e=.returned (.tuple #[.string s,.bool false])/\W=w':=fun W=>(J1 W).mono (by
    rintro e w' ⟨rfl,rfl⟩;refine ⟨?_,rfl⟩
    show Ending.returned (.tuple #[.string ⟨(Lib.trimPrefix (c::r) [112]).toArray⟩,.bool (Lib.hasPrefix (c::r) [112])])=_
    rw[F9.1,F9.2,Ve,<-i9])
   have I1:=fun W=>Tryz.Qzt s ⟨#[45]⟩ W;have hE:Qda (c::r)=none:=(by rw[Qda,Uu hp]);have HC:=Xh3 Kv I1 hE;clear J1 Kv I1 F9 Ve hE hS i9 O0
   go_enter Tryz.func268,Tryz.ntmps268
   go_wp2_with (first
    |(go_at_call_of 173 (Value.string ⟨#[112]⟩);refine ((Xo0 HC) _).mono ?_;rintro e w1 ⟨rfl,rfl⟩)
    |(go_at_call_of 173 (Value.string ⟨#[45]⟩);refine ((Xo1 HC) _).mono ?_;rintro e w1 ⟨rfl,S4⟩;obtain rfl:=S4.symm))
   refine ⟨rfl,.tuple #[.int .i64 0,.bool false],by simp[results,go_sem],Q64.bad (Xe2 HC) (Ud _ _)⟩
def Q1v (S:LU) (neg':Bool) (e':Int) (L:LN) (er:Int):Prop:=match form S with
 |none=>neg'=false/\e'=0/\L=[]/\er=5
 |some (neg,v,e)=>Q79 neg v e neg' e' L er
theorem Q1v.none_ {S:LU} (h:form S=none):Q1v S false 0 [] 5:=by unfold Q1v;rw[h];exact ⟨rfl,rfl,rfl,rfl⟩
theorem Q1v.some_ {S:LU} {neg:Bool} {v:Nat} {e:Int} (h:form S=some (neg,v,e)) {neg':Bool} {e':Int} {L:LN} {er:Int} (hm:Q79 neg v e neg' e' L er):Q1v S neg' e' L er:=by unfold Q1v;rw[h];exact hm
end Go.Proofs.YtidojbkhlenahaaGreatDoor
