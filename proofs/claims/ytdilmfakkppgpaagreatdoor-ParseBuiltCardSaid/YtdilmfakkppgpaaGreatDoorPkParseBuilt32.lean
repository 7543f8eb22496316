/- Part 32 of the proof of LawParseBuilt: DeckB, RefMA, ReckM, RRdr, RefSh, BuiltA. Condition: as each theorem says; none at the end. -/
import Derived.Test.YtdilmfakkppgpaaGreatDoorPkParseBuilt31
set_option maxRecDepth 100000
set_option maxHeartbeats 16000000
namespace Go.Proofs.YtdilmfakkppgpaaGreatDoor
open Go.RowKit WordsM DecM
def Qyb (neg:Bool) (v:Nat) (exp:Int) (e:Ending) (w':World):Prop:=∃neg' e' a' n' c' L er,e=.returned (.agg #[.bool neg',.int .i64 e',.slice a' n' c'])/\Q5z neg v exp neg' e' L er/\WordsIn w' a' n' c' L
theorem one_size (d:UInt8):(⟨#[d]⟩:ByteArray).size=1:=rfl
theorem Qis (neg:Bool) (a:OA) (n c:Nat) (ls:LN) (exp:Int) (w:World) (h:WordsIn w a n c ls) (hn:n<=100000) (he: -1000000000<=exp) (V6:exp<=1000000000):
 Calls Tryz.prog 50 #[.bool neg,.slice a n c,.int .i64 exp] w fun e w'=>Qyb neg (val (2^64) ls) exp e w'/\Bw w w':=by
 have F2:∀o,Bw w (w.alloc o):=fun o=>Ba;have A3:=Q0r w (.cells #[.bool false,.int .i64 0,.slice none 0 0] 41);have JH:=Q02.new w (.bool false) (.int .i64 0) (.slice none 0 0) 41;have hm:=Qjs neg a n c ls exp (w.alloc (.cells #[.bool false,.int .i64 0,.slice none 0 0] 41)) (h.step (F2 _)) hn he V6;have HM:=Xh2 hm JH;clear hm JH h
 go_enter Tryz.func50,Tryz.ntmps50
 go_wp2_with (refine (Xo0 HM).mono ?_;rintro e w1 ⟨neg2,e2,a2,n2,c2,L,er,rfl,E7,hW,C0⟩;
              have V5:Bw w1 (w1.alloc (.cells #[.bool neg2,.int .i64 e2,.slice a2 n2 c2] 41)):=Ba;have E3:=Below.next0 C0 V5;have U0:=(Xe1 HM).step E3 A3;have Y3:=U0.c0;have N1:=U0.c1;have E1:=U0.c2;have Q4:=U0.f0;have O2:=U0.f1;have X2:=U0.f2;have K2:=U0.d1 (.bool neg2);have M2:=U0.d2 (.bool neg2) (.int .i64 e2);have Xq:=Q02.new w1 (.bool neg2) (.int .i64 e2) (.slice a2 n2 c2) 41;have U9:=Xq.c0;have B7:=Xq.c1;have Y6:=Xq.c2;have K0:=Xh4 U0 (Below.next0 (F2 _) E3) (hW.step V5) E7;clear U0 Xq V5 E3 C0 hW E7)
 have I4:=(Xo0 K0).store (.bool neg2) (.int .i64 e2) (.slice a2 n2 c2);have k0:=I4.c0;have k1:=I4.c1;have k2:=I4.c2;have U2:=Q02.below (Xo1 K0) (Ug _) (.bool neg2) (.int .i64 e2) (.slice a2 n2 c2);have C6:=(Xo2 K0);have WK:WordsIn _ a2 n2 c2 L:=⟨C6.len,C6.cap,C6.most,C6.low,(C6.rd.store3 (Xo0 K0) (fun _=>by simp[nv]) (fun _=>by simp[nv]) (fun _=>by simp[nv]) (.bool neg2) (.int .i64 e2) (.slice a2 n2 c2)).more (Q18 _ _ _ _ _)⟩;clear I4 Y3 N1 E1 Q4 O2 X2 K2 M2 C6 U9 B7 Y6;generalize World.setCell _ _ _=W5 at k0 k1 k2 U2 WK⊢;refine ⟨rfl,.agg #[.bool neg2,.int .i64 e2,.slice a2 n2 c2],by simp[results,go_sem,k0,k1,k2],⟨neg2,e2,a2,n2,c2,L,er,rfl,(Xe3 K0),WK⟩,U2⟩
def Qvn (neg:Bool) (e:Int) (L:LN):Prop:=Q0i neg e L/\val (2^64) L<64/\-6<=e/\e<=8
def Qbq (e:Ending) (w':World):Prop:=∃neg' e' a' n' c' L,e=.returned (.agg #[.bool neg',.int .i64 e',.slice a' n' c'])/\Qvn neg' e' L/\WordsIn w' a' n' c' L
theorem Qoj {neg:Bool} {p:Nat} {e0:Int} {neg':Bool} {e':Int} {L:LN} {er:Int} (hp:p<=63) (h0:0<=e0) (h8:e0<=8) (h:Q5z neg (val (2^64) [p]) (e0-6) neg' e' L er):Qvn neg' e' L:=by
 refine ⟨Qoa h,?_⟩;have hv:val (2^64) [p]=p:=by simp[val]
 rw[hv] at h;rcases h with ⟨_,rfl,rfl,rfl,_⟩|⟨z,hz,⟨_,rfl,rfl,rfl,_⟩|⟨_,_,h,rfl,rfl,rfl,_⟩⟩
 ·exact ⟨by show 0<64;decide,by decide,by decide⟩
 ·exact ⟨by show 0<64;decide,by decide,by decide⟩
 ·have hp0:=hz.pos;have K1:=hz.1;have K9:z<6:=by
   refine Xag fun o6=>?_;have h1:2^6<=2^z:=UR (by decide) o6;have h2:p%2^z=p:=TX (by omega);omega
  rw[Q0x (by decide)];have h3:p / 2^z<=p:=Xbj _ _;exact ⟨by omega,by omega,by omega⟩
theorem Qbq.of {neg:Bool} {p:Nat} {e0:Int} {neg':Bool} {e':Int} {L:LN} {er:Int} {a':OA} {n' c':Nat} {w':World} (hp:p<=63) (h0:0<=e0) (h8:e0<=8) (h:Q5z neg (val (2^64) [p]) (e0-6) neg' e' L er) (hw:WordsIn w' a' n' c' L):Qbq (.returned (.agg #[.bool neg',.int .i64 e',.slice a' n' c'])) w':=⟨_,_,_,_,_,_,rfl,Qoj hp h0 h8 h,hw⟩
theorem Qem {e:Int} {L:LN} (hv:val (2^64) L<64) (h1: -6<=e) (h2:e<=8):(Q1a false e L).length<=6:=by
 unfold Q1a
 split
 ·unfold Q2s Qa1;have d1:=dec_len 2 (val (2^64) L) (by omega) (by decide);have d2:=dec_len 1 e.natAbs (by omega) (by decide);have d3:(if e<0 then 45::dec e.natAbs else dec e.natAbs).length<=2:=by
   split
   ·rw[Uz];omega
   ·omega
  have d4:(if e=0 then [] else 112::(if e<0 then 45::dec e.natAbs else dec e.natAbs)).length<=3:=by
   split
   ·simp
   ·rw[Uz];omega
  rw[Uj,Uj];have d5:(if false=true then [(45:UInt8)] else []).length=0:=rfl
  first
   |(simp only[Tl,Xaq,Xan] at*;omega)
   |(simp at*;omega)
 ·simp
theorem Qok (b i:Nat) (w:World) (h:Q8w w b i) (hi:i<=990000):
 Calls Tryz.prog 22 #[.pointer (some ⟨b,0,none⟩)] w fun e w'=>Qbq e w'/\Q8w w' b (i+1)/\Q0f (·=b) w w':=by
 have F2:∀o,Bw w (w.alloc o):=fun o=>Ba;have A3:=Q0r w (.cells #[.bool false,.int .i64 0,.slice none 0 0] 41);have JH:=Q02.new w (.bool false) (.int .i64 0) (.slice none 0 0) 41;have F3:=h.lt;have p6:=Qax b i (w.alloc (.cells #[.bool false,.int .i64 0,.slice none 0 0] 41)) (h.call (F2 _)) (by omega);have HM:=Xh2 p6 JH;clear p6 JH h
 go_enter Tryz.func22,Tryz.ntmps22
 go_upto_region 1 with fail
 go_cut [3] (fun v wx=>∃x:Nat,x<18446744073709551616/\v=.int .u64 (x:Int)/\Q8w wx b (i+1)/\Q0f (·=b) (w.alloc (.cells #[.bool false,.int .i64 0,.slice none 0 0] 41)) wx)
 case first=>
  go_wp2_with (refine (Xo0 HM).mono ?_;rintro e w1 ⟨⟨x,hx,rfl⟩,K2,Y1⟩;have HD1:=Xh2 K2 Y1;clear K2 Y1)
  go_meet;exact ⟨x,hx,rfl,(Xo0 HD1),(Xe1 HD1)⟩
 obtain ⟨x,hx,rfl,K2,Y1⟩:=hcut;have HD1:=Xh2 K2 Y1;clear K2 Y1;obtain ⟨m,hm⟩:∃m,x%2=m:=⟨_,rfl⟩;have W6:bits .and .u64 (x:Int) 1=(m:Int):=by rw[show (1:Int)=((1:Nat):Int) from rfl,u64_and_nat x 1 hx (by decide),nat_mask1,hm]
 obtain ⟨neg,P6⟩:∃neg,((m:Int)==1)=neg:=⟨_,rfl⟩;obtain ⟨e0,he0,JF,V6⟩:∃e0:Int,(x:Int) / 128%9=e0/\0<=e0/\e0<=8:=⟨_,rfl,by omega,by omega⟩;obtain ⟨y,hy⟩:∃y,x / 2=y:=⟨_,rfl⟩;have hyI:(x:Int) / 2=(y:Int):=by omega
 obtain ⟨p,hp,hp63⟩:∃p:Nat,bits .and .u64 (y:Int) (63:Int)=(p:Int)/\p<=63:=⟨_,u64_and_nat y 63 (by omega) (by decide),Nat.and_le_right⟩;have Qb:p<18446744073709551616:=by omega
 have YW:bits .and .u64 (y:Int) 63=(p:Int):=hp;clear hy hp hm;have hNc:=(Xe1 HM).turn (Xe1 HD1) A3 (by omega);have hlc:=Ue A3 (Xe1 HD1).size;have htc:Q0f (·=b) w wc:=(Q0f.of_below (F2 _) _).trans0 (Xe1 HD1);have HN:=Xh3 hNc hlc htc;clear hNc hlc htc
 go_wp2_with (refine (Qis neg (some ⟨wc.heap.size,0,none⟩) 1 1 [p] (e0-6) (wc.alloc (.cells #[.int .u64 (p:Int)] 74)) (Qry wc p (Qb) 74) (by decide) (by omega) (by omega)).mono ?_;rintro e w2 ⟨⟨neg2,e2,a2,n2,c2,L,er,rfl,X1,hW⟩,D0⟩;have C2:=Below.next0 ((Uf wc.heap.size wc).alloc (Ug _) (.cells #[.int .u64 (p:Int)] 74)) D0;have U0:=(Xo0 HN).step C2 (Xo1 HN);have Y3:=U0.c0;have N1:=U0.c1;have E1:=U0.c2;have Q4:=U0.f0;have O2:=U0.f1;have X2:=U0.f2;have L4:=U0.d1 (.bool neg2);have K3:=U0.d2 (.bool neg2) (.int .i64 e2);have B1:=Xh5 U0 ((Xe2 HN).trans0 (Q0f.of_below C2 _)) hW X1 C2;clear U0 C2 hW X1 D0)
 have I4:=(Xo0 B1).store (.bool neg2) (.int .i64 e2) (.slice a2 n2 c2);have k0:=I4.c0;have k1:=I4.c1;have k2:=I4.c2;have Q5:=(((Xo1 B1).newSet (p:=⟨w.heap.size,0,none⟩) (Ug _) (.bool neg2)).newSet (p:=⟨w.heap.size,1,none⟩) (Ug _) (.int .i64 e2)).newSet (p:=⟨w.heap.size,2,none⟩) (Ug _) (.slice a2 n2 c2);have ht7:Q0f (fun k=>k=w.heap.size) wc (((w2.setCell ⟨w.heap.size,0,none⟩ (.bool neg2)).setCell ⟨w.heap.size,1,none⟩ (.int .i64 e2)).setCell ⟨w.heap.size,2,none⟩ (.slice a2 n2 c2)):=(((Q0f.of_below (Xe4 B1) _).trans0 (Q0f.setCell (fun k=>k=w.heap.size) w2 (p:=⟨w.heap.size,0,none⟩) rfl (.bool neg2))).trans0 (Q0f.setCell (fun k=>k=w.heap.size) _ (p:=⟨w.heap.size,1,none⟩) rfl (.int .i64 e2))).trans0 (Q0f.setCell (fun k=>k=w.heap.size) _ (p:=⟨w.heap.size,2,none⟩) rfl (.slice a2 n2 c2));have KH:=(Xo0 HD1).turn ht7 (fun k hk=>by omega);have C6:=(Xo2 B1);have WK:WordsIn _ a2 n2 c2 L:=⟨C6.len,C6.cap,C6.most,C6.low,(C6.rd.store3 (Xo0 B1) (fun _=>by simp[nv]) (fun _=>by simp[nv]) (fun _=>by simp[nv]) (.bool neg2) (.int .i64 e2) (.slice a2 n2 c2)).more (Q18 _ _ _ _ _)⟩;clear I4 Y3 N1 E1 Q4 O2 X2 L4 K3 C6 ht7;generalize World.setCell _ _ _=W5 at k0 k1 k2 Q5 WK KH⊢;exact ⟨rfl,.agg #[.bool neg2,.int .i64 e2,.slice a2 n2 c2],by simp[results,go_sem,k0,k1,k2],Qbq.of hp63 JF V6 (Xo3 B1) WK,KH,Q5⟩
theorem Qsb (b i n:Nat) (w:World) (h:Q8w w b i) (hi:i<=1000000) (h0:0<n) (hn:n<=1000000):
 Calls Tryz.prog 39 #[.pointer (some ⟨b,0,none⟩),.int .i64 (n:Int)] w fun e w'=>(∃y:Bool,e=.returned (.bool y))/\Q8w w' b (i+1)/\Q0f (·=b) w w':=by
 have hc:=Qfo b i n w h hi h0 hn;have HC:=Ua hc;clear hc h
 go_enter Tryz.func39,Tryz.ntmps39
 go_wp2_with (refine HC.out.mono ?_;rintro e w1 ⟨⟨x,hx,rfl⟩,hd,ht⟩;(have HD:=Xh2 hd ht);clear hd ht)
 go_ret;exact ⟨⟨_,rfl⟩,HD.out⟩
end Go.Proofs.YtdilmfakkppgpaaGreatDoor
namespace Go.Proofs.YtdilmfakkppgpaaGreatDoor
open Go.RowKit WordsM
theorem Qen (n:Bool) (e:Int) (a:OA) (l c:Nat) (L:LN) (w:World) (h:WordsIn w a l c L) (hi:Q0i n e L):
 Calls Tryz.prog 72 #[.agg #[.bool n,.int .i64 e,.slice a l c]] w fun r w'=>r=.returned (.agg #[.bool false,.int .i64 e,.slice a l c])/\Bw w w':=by
 obtain ⟨B2,hX,hR,hB⟩:=Q92 w (.bool n) (.int .i64 e) (.slice a l c) (.bool false) (.int .i64 0) (.slice none 0 0) 41 41;have A3:l=0↔L=[]:=by rw[<-h.len];exact UH
 have Z2:=h.len;generalize hW:(w.alloc (.cells #[.bool n,.int .i64 e,.slice a l c] 41)).alloc (.cells #[.bool false,.int .i64 0,.slice none 0 0] 41)=W at B2 hX hR hB;have X5: -65536<=e/\e<=65536:=by rcases Q21 hi h.low with ⟨_,_,h0⟩|⟨_,_,_,_,h1,h2⟩ <;> omega
 have Zi:=Q5q n e a l c L W (h.step hB) (by omega) (by omega) (by have:=h.cap;have:=h.most;omega);rw[UU hi] at Zi;have x0:=hX.c0;have x1:=hX.c1;have x2:=hX.c2;have HR:=Xh6 Zi hX hR hB B2 A3;clear Zi hX hR hB B2 A3 X5 h Z2
 go_enter Tryz.func72,Tryz.ntmps72
 go_upto_region 3 with (go_at_call 118;refine (Xo0 HR).mono ?_;rintro r w1 ⟨rfl,C0⟩;have H1:=Ua C0;clear C0)
 have J2:=(Xo1 HR).step H1.out (by have:=(Xo4 HR);omega);have U5:=(Xo2 HR).step H1.out (by have:=(Xo4 HR);omega);have x0:=J2.c0;have x1:=J2.c1;have x2:=J2.c2;have f0:=U5.f0;have f1:=U5.f1;have f2:=U5.f2;have c0:=U5.c0;have c1:=U5.c1;have c2:=U5.c2;have HQ:=Xh2 J2 U5;clear J2 U5;have d1:=(Xe1 HQ).d1 (.bool false);have d2:=(Xe1 HQ).d2 (.bool false) (.int .i64 e)
 go_wp2_with fail
 have hS:=(Xe1 HQ).store (.bool false) (.int .i64 e) (.slice a l c);have k0:=hS.c0;have k1:=hS.c1;have k2:=hS.c2;have R4:=Q02.below (Below.next0 (Xo3 HR) H1.out) (show w.heap.size<=w.heap.size+1 by omega) (.bool false) (.int .i64 e) (.slice a l c);exact ⟨rfl,.agg #[.bool false,.int .i64 e,.slice a l c],by simp[results,go_sem,k0,k1,k2],rfl,R4⟩
theorem Qit (n:Bool) (e:Int) (a:OA) (l c:Nat) (L:LN) (w:World) (h:WordsIn w a l c L) (hi:Q0i n e L) (h0:L≠[]):
 Calls Tryz.prog 161 #[.agg #[.bool n,.int .i64 e,.slice a l c]] w fun r w'=>r=.returned (.agg #[.bool (!n),.int .i64 e,.slice a l c])/\Bw w w':=by
 obtain ⟨B2,hX,hR,hB⟩:=Q92 w (.bool n) (.int .i64 e) (.slice a l c) (.bool false) (.int .i64 0) (.slice none 0 0) 41 41;have A3:l=0↔L=[]:=by rw[<-h.len];exact UH
 have Z2:=h.len;generalize hW:(w.alloc (.cells #[.bool n,.int .i64 e,.slice a l c] 41)).alloc (.cells #[.bool false,.int .i64 0,.slice none 0 0] 41)=W at B2 hX hR hB;have X5: -65536<=e/\e<=65536:=by rcases Q21 hi h.low with ⟨_,_,h0⟩|⟨_,_,_,_,h1,h2⟩ <;> omega
 have Zi:=Q5q n e a l c L W (h.step hB) (by omega) (by omega) (by have:=h.cap;have:=h.most;omega);rw[UU hi] at Zi;have x0:=hX.c0;have x1:=hX.c1;have x2:=hX.c2;have HR:=Xh6 Zi hX hR hB B2 A3;clear Zi hX hR hB B2 A3 X5 h Z2;have hlz:((l:Int)==0)=false:=by rw[Ui];intro e;exact h0 (HR.out.2.2.2.2.2.1 (by omega))
 clear h0
 go_enter Tryz.func161,Tryz.ntmps161
 go_upto_region 3 with (go_at_call 118;refine (Xo0 HR).mono ?_;rintro r w1 ⟨rfl,C0⟩;have H1:=Ua C0;clear C0)
 have J2:=(Xo1 HR).step H1.out (by have:=(Xo4 HR);omega);have U5:=(Xo2 HR).step H1.out (by have:=(Xo4 HR);omega);have x0:=J2.c0;have x1:=J2.c1;have x2:=J2.c2;have f0:=U5.f0;have f1:=U5.f1;have f2:=U5.f2;have c0:=U5.c0;have c1:=U5.c1;have c2:=U5.c2;have HQ:=Xh2 J2 U5;clear J2 U5;have d1:=(Xe1 HQ).d1 (.bool (!n));have d2:=(Xe1 HQ).d2 (.bool (!n)) (.int .i64 e)
 go_wp2_with fail
 have hS:=(Xe1 HQ).store (.bool (!n)) (.int .i64 e) (.slice a l c);have k0:=hS.c0;have k1:=hS.c1;have k2:=hS.c2;have R4:=Q02.below (Below.next0 (Xo3 HR) H1.out) (show w.heap.size<=w.heap.size+1 by omega) (.bool (!n)) (.int .i64 e) (.slice a l c);exact ⟨rfl,.agg #[.bool (!n),.int .i64 e,.slice a l c],by simp[results,go_sem,k0,k1,k2],rfl,R4⟩
end Go.Proofs.YtdilmfakkppgpaaGreatDoor
namespace Go.Proofs.YtdilmfakkppgpaaGreatDoor
open Go.RowKit WordsM DecM
inductive OpM where
 |num (c:Option Dyadic)
 |var (i:Nat)
 |nil
 |add
 |sub
 |mul
 |neg
 |pow (k:Nat)
def Ql2 (first b:Bool):List OpM:=if first=true then (if b=true then [.neg] else []) else [if b=true then .sub else .add]
def Qol (first:Bool):List OpM:=if first=true then [] else [.mul]
mutual
def Q1i:Ex->List OpM
 | .num c=>[.num c]
 | .var i=>[.var i]
 | .sum []=>[.nil]
 | .sum (x::r)=>Q4x true (x::r)
 | .prod []=>[.nil]
 | .prod (x::r)=>Q5m true (x::r)
 | .pow b k=>Q1i b++[.pow k]
def Q4x (first:Bool):List (Bool × Ex)->List OpM
 |[]=>[]
 |(b,x)::r=>Q1i x++(Ql2 first b++Q4x false r)
def Q5m (first:Bool):List Ex->List OpM
 |[]=>[]
 |x::r=>Q1i x++(Qol first++Q5m false r)
end
theorem Qut {l:List (Bool × Ex)} (h:l≠[]):Q1i (.sum l)=Q4x true l:=by
 cases l with
 |nil=>exact absurd rfl h
 |cons x r=>rw[Q1i]
theorem Qsc {l:List Ex} (h:l≠[]):Q1i (.prod l)=Q5m true l:=by
 cases l with
 |nil=>exact absurd rfl h
 |cons x r=>rw[Q1i]
theorem Qeo {b:Bool} {x:Ex}:∀(l:List (Bool × Ex)) (first:Bool),Q4x first (l++[(b,x)])=Q4x first l++(Q1i x++Ql2 (first && l.isEmpty) b)
 |[],first=>by simp[Q4x]
 |(b',x')::r,first=>by
  rw[TD,Q4x,Qeo r false,Q4x];simp
theorem Qep {x:Ex}:∀(l:List Ex) (first:Bool),Q5m first (l++[x])=Q5m first l++(Q1i x++Qol (first && l.isEmpty))
 |[],first=>by simp[Q5m]
 |x'::r,first=>by
  rw[TD,Q5m,Qep r false,Q5m];simp
def opM (n:Nat):OpM->List (List Q0a)->Except Int (List (List Q0a))
 | .num none,_=>.error 2
 | .num (some c),st=>match Q24 [(c,List.replicate n 0)] with
   | .error e=>.error e
   | .ok P=>.ok (P::st)
 | .var i,st=>.ok ([(1,Q84 n i)]::st)
 | .nil,st=>.ok ([]::st)
 | .add,b::a::st=>match Qfz a b with
   | .error e=>.error e
   | .ok P=>.ok (P::st)
 | .sub,b::a::st=>match Qfz a (Q5l b) with
   | .error e=>.error e
   | .ok P=>.ok (P::st)
 | .mul,b::a::st=>match Q8d a b with
   | .error e=>.error e
   | .ok P=>.ok (P::st)
 | .neg,a::st=>.ok (Q5l a::st)
 | .pow k,a::st=>match Q6a n a k with
   | .error e=>.error e
   | .ok P=>.ok (P::st)
 |_,_=>.error 99
def Q4y (n:Nat):List OpM->List (List Q0a)->Except Int (List (List Q0a))
 |[],st=>.ok st
 |o::r,st=>match opM n o st with
  | .error e=>.error e
  | .ok st'=>Q4y n r st'
mutual
theorem Q6n (n:Nat):∀(x:Ex) (r:List OpM) (st:List (List Q0a)),Q4y n (Q1i x++r) st=(match Q16 n x with
 | .error e=>.error e
 | .ok P=>Q4y n r (P::st))
 | .num none,r,st=>by rw[Q1i,TK,Q4y,opM,Q16]
 | .num (some c),r,st=>by
   rw[Q1i,TK,Q4y,opM,Q16];cases Q24 [(c,List.replicate n 0)] <;> rfl
 | .var i,r,st=>by
   rw[Q1i,TK,Q4y,opM,Qtk];rfl
 | .sum [],r,st=>by
   rw[Q1i,TK,Q4y,opM,Q16,Q45];rfl
 | .prod [],r,st=>by
   rw[Q1i,TK,Q4y,opM,Q16,Q4c];rfl
 | .sum ((b,x)::l),r,st=>by
   rw[Q1i,Q4x,UO,Q6n n x,Q16,Q45];cases Q16 n x with
   |error e=>rfl
   |ok P=>
    simp only;rw[UO,Ql2,Us rfl];cases b with
    |true=>
     rw[Us rfl,TK,Q4y,opM];simp only;rw[Q81 n l r (Q5l P) st];rfl
    |false=>
     rw[Uq (by decide),TW,Q81 n l r P st];rfl
 | .prod (x::l),r,st=>by
   rw[Q1i,Q5m,UO,Q6n n x,Q16,Q4c];cases Q16 n x with
   |error e=>rfl
   |ok P=>
    simp only;rw[UO,Qol,Us rfl,TW,Qeq n l r P st]
 | .pow b k,r,st=>by
   rw[Q1i,UO,Q6n n b,Q16];cases Q16 n b with
   |error e=>rfl
   |ok P=>
    simp only;rw[TK,Q4y,opM];cases Q6a n P k <;> rfl
theorem Q81 (n:Nat):∀(l:List (Bool × Ex)) (r:List OpM) (q:List Q0a) (st:List (List Q0a)),Q4y n (Q4x false l++r) (q::st)=(match Q45 n (some q) l with
 | .error e=>.error e
 | .ok P=>Q4y n r (P::st))
 |[],r,q,st=>by rw[Q4x,Q45];rfl
 |(b,x)::l,r,q,st=>by
  rw[Q4x,UO,Q6n n x,Q45];cases Q16 n x with
  |error e=>rfl
  |ok P=>
   simp only;rw[UO,Ql2,Uq (by decide),TK,Q4y];cases b with
   |true=>
    rw[Us rfl,Us rfl,opM];cases Qfz q (Q5l P) with
    |error e=>rfl
    |ok P2=>
     simp only;rw[Q81 n l r P2 st]
   |false=>
    rw[Uq (by decide),Uq (by decide),opM];cases Qfz q P with
    |error e=>rfl
    |ok P2=>
     simp only;rw[Q81 n l r P2 st]
theorem Qeq (n:Nat):∀(l:List Ex) (r:List OpM) (q:List Q0a) (st:List (List Q0a)),Q4y n (Q5m false l++r) (q::st)=(match Q4c n (some q) l with
 | .error e=>.error e
 | .ok P=>Q4y n r (P::st))
 |[],r,q,st=>by rw[Q5m,Q4c];rfl
 |x::l,r,q,st=>by
  rw[Q5m,UO,Q6n n x,Q4c];cases Q16 n x with
  |error e=>rfl
  |ok P=>
   simp only;rw[UO,Qol,Uq (by decide),TK,Q4y,opM];cases Q8d q P with
   |error e=>rfl
   |ok P2=>
    simp only;rw[Qeq n l r P2 st]
end
theorem Qmq (n:Nat) (x:Ex):Q4y n (Q1i x) []=(match Q16 n x with
 | .error e=>.error e
 | .ok P=>.ok [P]):=by
 have:=Q6n n x [] [];rw[TV] at this;rw[this];cases Q16 n x <;> rfl
def Quu (n:Nat):OpM->Prop
 | .num (some c)=>Q75 c
 | .var i=>i<n
 | .pow k=>k<=8
 |_=>True
mutual
theorem Q9p (n:Nat):∀(x:Ex),Q32 n x->∀o∈Q1i x,Quu n o
 | .num none,_,o,h=>by rw[Q1i,Uy] at h;subst h;trivial
 | .num (some c),hg,o,h=>by rw[Q1i,Uy] at h;subst h;rw[Q32] at hg;exact hg
 | .var i,hg,o,h=>by rw[Q1i,Uy] at h;subst h;rw[Q32] at hg;exact hg
 | .sum [],_,o,h=>by rw[Q1i,Uy] at h;subst h;trivial
 | .prod [],_,o,h=>by rw[Q1i,Uy] at h;subst h;trivial
 | .sum (y::l),hg,o,h=>by rw[Q32] at hg;rw[Q1i] at h;exact Qer n true (y::l) hg o h
 | .prod (y::l),hg,o,h=>by rw[Q32] at hg;rw[Q1i] at h;exact Qes n true (y::l) hg o h
 | .pow b k,hg,o,h=>by
   rw[Q32] at hg;rw[Q1i] at h;rcases UY.1 h with h|h
   ·exact Q9p n b hg.1 o h
   ·rw[Uy] at h;subst h;exact hg.2
theorem Qer (n:Nat) (first:Bool):∀(l:List (Bool × Ex)),Q7b n l->∀o∈Q4x first l,Quu n o
 |[],_,o,h=>by rw[Q4x] at h;cases h
 |(b,x)::r,hg,o,h=>by
  rw[Q7b] at hg;rw[Q4x] at h;rcases UY.1 h with h|h
  ·exact Q9p n x hg.1 o h
  rcases UY.1 h with h|h
  ·unfold Ql2 at h
   split at h
   ·split at h
    ·rw[Uy] at h;subst h;trivial
    ·cases h
   ·rw[Uy] at h;subst h
    split <;> trivial
  ·exact Qer n false r hg.2 o h
theorem Qes (n:Nat) (first:Bool):∀(l:List Ex),Q7l n l->∀o∈Q5m first l,Quu n o
 |[],_,o,h=>by rw[Q5m] at h;cases h
 |x::r,hg,o,h=>by
  rw[Q7l] at hg;rw[Q5m] at h;rcases UY.1 h with h|h
  ·exact Q9p n x hg.1 o h
  rcases UY.1 h with h|h
  ·unfold Qol at h
   split at h
   ·cases h
   ·rw[Uy] at h;subst h;trivial
  ·exact Qes n false r hg.2 o h
end
structure Q8u (w:World) (R:Nat) (s:ByteArray) (p n d bad:Int) (a:OA) (m c:Nat):Prop where
 c0:w.cell? ⟨R,0,none⟩=some (.string s)
 c1:w.cell? ⟨R,1,none⟩=some (.int .i64 p)
 c2:w.cell? ⟨R,2,none⟩=some (.int .i64 n)
 c3:w.cell? ⟨R,3,none⟩=some (.int .i64 d)
 c4:w.cell? ⟨R,4,none⟩=some (.int .i64 bad)
 c5:w.cell? ⟨R,5,none⟩=some (.slice a m c)
 f0:w.frozen? ⟨R,0,none⟩=false
 f1:w.frozen? ⟨R,1,none⟩=false
 f2:w.frozen? ⟨R,2,none⟩=false
 f3:w.frozen? ⟨R,3,none⟩=false
 f4:w.frozen? ⟨R,4,none⟩=false
 f5:w.frozen? ⟨R,5,none⟩=false
 lt:R<w.heap.size
section
variable {w w':World} {R:Nat} {s:ByteArray} {p n d bad:Int} {a:OA} {m c:Nat}
theorem Q8u.step (h:Q8u w R s p n d bad a m c) (hb:Bw w w'):Q8u w' R s p n d bad a m c:=
 ⟨(hb.cell (p:=⟨R,0,none⟩) h.lt).trans h.c0,(hb.cell (p:=⟨R,1,none⟩) h.lt).trans h.c1,(hb.cell (p:=⟨R,2,none⟩) h.lt).trans h.c2,(hb.cell (p:=⟨R,3,none⟩) h.lt).trans h.c3,(hb.cell (p:=⟨R,4,none⟩) h.lt).trans h.c4,(hb.cell (p:=⟨R,5,none⟩) h.lt).trans h.c5,
   (hb.frozen (p:=⟨R,0,none⟩) h.lt).trans h.f0,(hb.frozen (p:=⟨R,1,none⟩) h.lt).trans h.f1,(hb.frozen (p:=⟨R,2,none⟩) h.lt).trans h.f2,(hb.frozen (p:=⟨R,3,none⟩) h.lt).trans h.f3,(hb.frozen (p:=⟨R,4,none⟩) h.lt).trans h.f4,(hb.frozen (p:=⟨R,5,none⟩) h.lt).trans h.f5,Ue h.lt hb.size⟩
theorem Q8u.turn {fp:Nat->Prop} (h:Q8u w R s p n d bad a m c) (ht:Q0f fp w w') (hn:¬fp R):Q8u w' R s p n d bad a m c:=
 ⟨(ht.cell (p:=⟨R,0,none⟩) h.lt hn).trans h.c0,(ht.cell (p:=⟨R,1,none⟩) h.lt hn).trans h.c1,(ht.cell (p:=⟨R,2,none⟩) h.lt hn).trans h.c2,(ht.cell (p:=⟨R,3,none⟩) h.lt hn).trans h.c3,(ht.cell (p:=⟨R,4,none⟩) h.lt hn).trans h.c4,(ht.cell (p:=⟨R,5,none⟩) h.lt hn).trans h.c5,
   (ht.frozen (p:=⟨R,0,none⟩) h.lt hn).trans h.f0,(ht.frozen (p:=⟨R,1,none⟩) h.lt hn).trans h.f1,(ht.frozen (p:=⟨R,2,none⟩) h.lt hn).trans h.f2,(ht.frozen (p:=⟨R,3,none⟩) h.lt hn).trans h.f3,(ht.frozen (p:=⟨R,4,none⟩) h.lt hn).trans h.f4,(ht.frozen (p:=⟨R,5,none⟩) h.lt hn).trans h.f5,Ue h.lt ht.size⟩
theorem Q8u.drewN (h:Q8u w R s p n d bad a m c) (k:Nat):Q8u (w.drewN k) R s p n d bad a m c:=⟨h.c0,h.c1,h.c2,h.c3,h.c4,h.c5,h.f0,h.f1,h.f2,h.f3,h.f4,h.f5,h.lt⟩
theorem Q8u.setAt (h:Q8u w R s p n d bad a m c) (q:Int):Q8u (w.setCell ⟨R,1,none⟩ (.int .i64 q)) R s q n d bad a m c:=
 ⟨(Uc _ _ _ _ (by simp)).trans h.c0,UE _ _ _ (by rw[h.c1];rfl),(Uc _ _ _ _ (by simp)).trans h.c2,(Uc _ _ _ _ (by simp)).trans h.c3,(Uc _ _ _ _ (by simp)).trans h.c4,(Uc _ _ _ _ (by simp)).trans h.c5,
   (Uh _ _ _ _).trans h.f0,(Uh _ _ _ _).trans h.f1,(Uh _ _ _ _).trans h.f2,(Uh _ _ _ _).trans h.f3,(Uh _ _ _ _).trans h.f4,(Uh _ _ _ _).trans h.f5,by rw[UV];exact h.lt⟩
theorem Q8u.setDeep (h:Q8u w R s p n d bad a m c) (q:Int):Q8u (w.setCell ⟨R,3,none⟩ (.int .i64 q)) R s p n q bad a m c:=
 ⟨(Uc _ _ _ _ (by simp)).trans h.c0,(Uc _ _ _ _ (by simp)).trans h.c1,(Uc _ _ _ _ (by simp)).trans h.c2,UE _ _ _ (by rw[h.c3];rfl),(Uc _ _ _ _ (by simp)).trans h.c4,(Uc _ _ _ _ (by simp)).trans h.c5,
   (Uh _ _ _ _).trans h.f0,(Uh _ _ _ _).trans h.f1,(Uh _ _ _ _).trans h.f2,(Uh _ _ _ _).trans h.f3,(Uh _ _ _ _).trans h.f4,(Uh _ _ _ _).trans h.f5,by rw[UV];exact h.lt⟩
theorem Q8u.setBad (h:Q8u w R s p n d bad a m c) (q:Int):Q8u (w.setCell ⟨R,4,none⟩ (.int .i64 q)) R s p n d q a m c:=
 ⟨(Uc _ _ _ _ (by simp)).trans h.c0,(Uc _ _ _ _ (by simp)).trans h.c1,(Uc _ _ _ _ (by simp)).trans h.c2,(Uc _ _ _ _ (by simp)).trans h.c3,UE _ _ _ (by rw[h.c4];rfl),(Uc _ _ _ _ (by simp)).trans h.c5,
   (Uh _ _ _ _).trans h.f0,(Uh _ _ _ _).trans h.f1,(Uh _ _ _ _).trans h.f2,(Uh _ _ _ _).trans h.f3,(Uh _ _ _ _).trans h.f4,(Uh _ _ _ _).trans h.f5,by rw[UV];exact h.lt⟩
theorem Q8u.setOps (h:Q8u w R s p n d bad a m c) (a':OA) (m' c':Nat):Q8u (w.setCell ⟨R,5,none⟩ (.slice a' m' c')) R s p n d bad a' m' c':=
 ⟨(Uc _ _ _ _ (by simp)).trans h.c0,(Uc _ _ _ _ (by simp)).trans h.c1,(Uc _ _ _ _ (by simp)).trans h.c2,(Uc _ _ _ _ (by simp)).trans h.c3,(Uc _ _ _ _ (by simp)).trans h.c4,UE _ _ _ (by rw[h.c5];rfl),
   (Uh _ _ _ _).trans h.f0,(Uh _ _ _ _).trans h.f1,(Uh _ _ _ _).trans h.f2,(Uh _ _ _ _).trans h.f3,(Uh _ _ _ _).trans h.f4,(Uh _ _ _ _).trans h.f5,by rw[UV];exact h.lt⟩
end
abbrev OnN (R B:Nat):Nat->Prop:=fun k=>k=R∨B<=k
def Qyo:OpM->Value->Value->Value->Prop
 | .num c,k,n,t=>k=.int .i64 1/\n=.int .i64 0/\∃s:LU,t=sv s/\s.length<=1000000/\∃neg v e,form s=some (neg,v,e)/\c=if Q69 (dy (sgn neg v) e)=true then some (dy (sgn neg v) e) else none
 | .var i,k,n,t=>k=.int .i64 2/\n=.int .i64 (i:Int)/\t=sv []
 | .add,k,n,t=>k=.int .i64 3/\n=.int .i64 0/\t=sv []
 | .sub,k,n,t=>k=.int .i64 4/\n=.int .i64 0/\t=sv []
 | .mul,k,n,t=>k=.int .i64 5/\n=.int .i64 0/\t=sv []
 | .pow i,k,n,t=>k=.int .i64 6/\n=.int .i64 (i:Int)/\t=sv []
 | .neg,k,n,t=>k=.int .i64 7/\n=.int .i64 0/\t=sv []
 | .nil,_,_,_=>False
def Q2g:List OpM->LV->Prop
 |[],xs=>xs=[]
 |o::r,xs=>∃k n t ys,xs=k::n::t::ys/\Qyo o k n t/\Q2g r ys
theorem Q2g.app {l':List OpM} {ys:LV} (h':Q2g l' ys):∀{l:List OpM} {xs:LV},Q2g l xs->Q2g (l++l') (xs++ys)
 |[],_,h=>by cases h;exact h'
 |_::_,_,⟨k,n,t,zs,rfl,h1,h2⟩=>⟨k,n,t,zs++ys,rfl,h1,Q2g.app h' h2⟩
theorem Q2g.one {o:OpM} {k n t:Value} (h:Qyo o k n t):Q2g [o] [k,n,t]:=⟨k,n,t,[],rfl,h,rfl⟩
theorem Q2g.len:∀{l:List OpM} {xs:LV},Q2g l xs->xs.length=l.length*3
 |[],_,h=>by cases h;rfl
 |_::r,_,⟨k,n,t,ys,rfl,_,h⟩=>by
  have:=Q2g.len h;simp only[Uz];omega
theorem Q2g.get:∀{l:List OpM} {xs:LV} {i:Nat} {o:OpM},Q2g l xs->l[i]?=some o->∃k n t,xs[i*3]?=some k/\xs[i*3+1]?=some n/\xs[i*3+2]?=some t/\Qyo o k n t
 |[],_,i,o,_,h=>by simp at h
 |_::r,_,0,o,⟨k,n,t,ys,rfl,h1,_⟩,h=>by
  simp only[UI,Un] at h;subst h;exact ⟨k,n,t,rfl,rfl,rfl,h1⟩
 |_::r,_,i+1,o,⟨k,n,t,ys,rfl,_,h2⟩,h=>by
  obtain ⟨k',n',t',g1,g2,g3,g4⟩:=Q2g.get h2 (i:=i) (by simpa using h);refine ⟨k',n',t',?_,?_,?_,g4⟩
  ·rw[show (i+1)*3=i*3+3 by omega];simpa using g1
  ·rw[show (i+1)*3+1=(i*3+1)+3 by omega];simpa using g2
  ·rw[show (i+1)*3+2=(i*3+2)+3 by omega];simpa using g3
def Quv (_:Value):Prop:=True
structure RSt (w:World) (R B:Nat) (s:ByteArray) (p n d bad:Int) (a:OA) (m c:Nat) (xs:LV):Prop where
 box:Q8u w R s p n d bad a m c
 rb:R<B
 bw:B<=w.heap.size
 row:Q3d Quv w B 170 3 a m c xs
section
variable {w w':World} {R B:Nat} {s:ByteArray} {p n d bad:Int} {a:OA} {m c:Nat} {xs:LV}
theorem RSt.new (h:RSt w R B s p n d bad a m c xs):∀x,a=some x->B<=x.block/\x.block<w.heap.size:=fun x hx=>by
 rcases h.row.1.form with ⟨h0,_⟩|⟨g,cur,h0,hB,B0,_⟩
 ·rw[h0] at hx;cases hx
 ·rw[h0] at hx;injection hx with hx;subst hx;exact ⟨hB,B0⟩
theorem RSt.turnR {p' n' d' bad':Int} (h:RSt w R B s p n d bad a m c xs) (ht:Q0f (OnR R) w w') (hb:Q8u w' R s p' n' d' bad' a m c):RSt w' R B s p' n' d' bad' a m c xs:=
 ⟨hb,h.rb,Ur h.bw ht.size,h.row.keep fun x hx=>ht.block _ (h.new x hx).2 (fun e=>by have h1:=(h.new x hx).1;have h2:=h.rb;have e:x.block=R:=e;omega)⟩
theorem RSt.drewN (h:RSt w R B s p n d bad a m c xs) (k:Nat):RSt (w.drewN k) R B s p n d bad a m c xs:=⟨h.box.drewN k,h.rb,h.bw,h.row.keep fun _ _=>rfl⟩
theorem RSt.step (h:RSt w R B s p n d bad a m c xs) (hb:Bw w w'):RSt w' R B s p n d bad a m c xs:=⟨h.box.step hb,h.rb,Ur h.bw hb.size,h.row.step hb⟩
theorem RSt.setAt (h:RSt w R B s p n d bad a m c xs) (q:Int):RSt (w.setCell ⟨R,1,none⟩ (.int .i64 q)) R B s q n d bad a m c xs:=h.turnR (Q0g _ _ _ _) (h.box.setAt q)
theorem RSt.setDeep (h:RSt w R B s p n d bad a m c xs) (q:Int):RSt (w.setCell ⟨R,3,none⟩ (.int .i64 q)) R B s p n q bad a m c xs:=h.turnR (Q0g _ _ _ _) (h.box.setDeep q)
theorem RSt.setBad (h:RSt w R B s p n d bad a m c xs) (q:Int):RSt (w.setCell ⟨R,4,none⟩ (.int .i64 q)) R B s p n d q a m c xs:=h.turnR (Q0g _ _ _ _) (h.box.setBad q)
end
theorem Q0f.onN {R B:Nat} {w w':World} (h:Q0f (OnR R) w w'):Q0f (OnN R B) w w':=h.more (fun _ _ hk=>.inl hk)
theorem Qaz {Φ P:World->Prop} (W:World) (hW:Φ W) (h:∀U,Φ U->P U):P W:=h W hW
theorem Q2e {R B:Nat} {s:ByteArray} {p n d bad:Int} {a:OA} {m c:Nat} {xs:LV} {w:World} {P:World->Prop} (W:World) (hW:RSt W R B s p n d bad a m c xs/\Q0f (OnR R) w W)
 (h:∀U,U.cell? ⟨R,0,none⟩=some (.string s)->U.cell? ⟨R,1,none⟩=some (.int .i64 p)->U.cell? ⟨R,2,none⟩=some (.int .i64 n)->U.cell? ⟨R,3,none⟩=some (.int .i64 d)->U.frozen? ⟨R,1,none⟩=false->U.frozen? ⟨R,3,none⟩=false->Hid (RSt U R B s p n d bad a m c xs/\Q0f (OnR R) w U)->P U):P W:=
 h W hW.1.box.c0 hW.1.box.c1 hW.1.box.c2 hW.1.box.c3 hW.1.box.f1 hW.1.box.f3 (Ua hW)
theorem Q8u.atOf {w:World} {R:Nat} {s:ByteArray} {p:Nat} {n d bad:Int} {a:OA} {m c:Nat} (h:Q8u w R s (p:Int) n d bad a m c):atOf w R=p:=by
 unfold Go.Proofs.YtdilmfakkppgpaaGreatDoor.atOf;rw[h.c1];simp
theorem Qfp (wr:World) (v:Int) (d:UInt8) (hv:v=(d.toNat:Int)):(convert 33 9 (.slice (some ⟨wr.heap.size,0,none⟩) 1 1)).run Tryz.prog (wr.alloc (.cells #[.int .u8 v] 5))=.ok (.string ⟨#[d]⟩) (wr.alloc (.cells #[.int .u8 v] 5)):=by
 refine Q7c _ (wr.heap.size+1) _ 1 1 [d] ?_ rfl;refine .inr ⟨wr.heap.size,0,rfl,by omega,fun j x hx=>?_⟩;cases j with
 |zero=>
  have hx:some d=some x:=hx;injection hx with hx;subst hx;rw[Ux _ _ _ _ _ _ (Ul _ _),hv];rfl
 |succ j=>cases hx
theorem Qiu (n:Nat) (hn:n<10) (w:World):
 Calls Tryz.prog 36 #[.int .i64 (n:Int)] w fun r w'=>r=.returned (sv (dec n))/\Bw w w':=by
 have hm:(n:Int)%10=(n:Int):=by omega
 have K4:IntKind.i64.wrap (48+(n:Int))=48+(n:Int):=by rw[Ut];omega
 have Q8:IntKind.u8.wrap (48+(n:Int))=48+(n:Int):=by rw[Xat];omega
 obtain ⟨q,hq⟩:∃q,UInt8.ofNat (48+n)=q:=⟨_,rfl⟩;have hd:(48:Int)+(n:Int)=(q.toNat:Int):=by rw[<-hq,Q43 n hn];omega
 have Qu:=Qfp w _ _ hd;have hb:Bw w (w.alloc (.cells #[.int .u8 (48+(n:Int))] 5)):=Ba;have H:=Xh3 hb hn hq;clear hb hd hn hq
 go_enter Tryz.func36,Tryz.ntmps36
 go_wp2_with fail
 go_ret;exact ⟨by rw[Q2d (Xo1 H),(Xe2 H)];rfl,(Xo0 H)⟩
theorem Q0f.past' {fp:Nat->Prop} {w W W':World} (h:Q0f fp w W) (hb:Bw W W'):Q0f fp w W':=h.trans0 (Q0f.of_below hb _)
def Qfq (b i L D:Nat) (w:World) (e:Ending) (w':World):Prop:=(∃(S:ByteArray) (j:Nat),e=.returned (.string S)/\S.size<=L/\Q8w w' b j/\j<=i+D)/\Q0f (·=b) w w'
def Qyy (w:World) (b i L D:Nat) (s5 s6:Value) (wr:World):Prop:=∃(Z:Int) (q:Nat) (S:ByteArray) (j:Nat),s5=.string S/\s6=.int .i64 Z/\-1<=Z/\Z<=2/\(q:Int)=Z+1/\S.size+q*(L+10)<=3*(L+10)/\Q8w wr b j/\j+q*(D+5)<=i+1+3*(D+5)/\Q0f (·=b) w wr
def Qyz (w:World) (b i L D:Nat) (s5 s6:Value) (wr:World):Prop:=∃(Z:Int) (q:Nat) (S:ByteArray) (j:Nat),s5=.string S/\s6=.int .i64 Z/\-1<=Z/\Z<=2/\(q:Int)=Z+1/\S.size+q*(L+4)<=1+3*(L+4)/\Q8w wr b j/\j+q*(D+1)<=i+2+3*(D+1)/\Q0f (·=b) w wr
theorem Q4z (a b:ByteArray):(a++b).size=a.size+b.size:=ByteArray.size_append
theorem Qiv {w:World} {g x:Nat} (h:w.heap[g]?=some (.cells #[.string ⟨#[32,43,32]⟩,.string ⟨#[45]⟩,.string ⟨#[32,45,32,32]⟩,.string ⟨#[43]⟩] 9 (0,0))) (hx:x<4):∃T:ByteArray,w.cell? ⟨g,x,none⟩=some (.string T)/\T.size<=4:=by
 rcases (show x=0∨x=1∨x=2∨x=3 by omega) with rfl|rfl|rfl|rfl
 ·exact ⟨⟨#[32,43,32]⟩,by rw[Ux _ _ _ _ _ _ h];rfl,by decide⟩
 ·exact ⟨⟨#[45]⟩,by rw[Ux _ _ _ _ _ _ h];rfl,by decide⟩
 ·exact ⟨⟨#[32,45,32,32]⟩,by rw[Ux _ _ _ _ _ _ h];rfl,by decide⟩
 ·exact ⟨⟨#[43]⟩,by rw[Ux _ _ _ _ _ _ h];rfl,by decide⟩
def Qyc (w:World) (b:Nat) (S:ByteArray) (L j D:Nat) (v:Value) (wx:World):Prop:=∃(S':ByteArray) (j':Nat),v=.string S'/\S'.size<=S.size+L/\Q8w wx b j'/\j'<=j+D/\Q0f (·=b) w wx
theorem Qsd (b kd L D:Nat) (hL:6<=L) (hD:2<=D) (Ks:L<=20000) (hk:kd<=3) (O5:0<kd->∀(w:World) (i:Nat),Q8w w b i->i+D<=900000->Calls Tryz.prog 15 #[.pointer (some ⟨b,0,none⟩),.int .i64 ((kd:Int)-1)] w (Qfq b i L D w)) (w:World) (i:Nat) (h:Q8w w b i) (hi:i+1+3*(D+5)<=900000):
 Calls Tryz.prog 40 #[.pointer (some ⟨b,0,none⟩),.int .i64 (kd:Int)] w (Qfq b i (3*(L+10)) (1+3*(D+5)) w):=by
 have Qn:=Qfo b i 3 w h (by omega) (by decide) (by decide);have F3:=h.lt;have H:=Xh2 Qn O5;clear Qn O5 h
 go_enter Tryz.func40,Tryz.ntmps40
 go_wp2_with (refine (Xo0 H).mono ?_;rintro e w1 ⟨⟨x,hx,rfl⟩,hd,ht⟩;(have HD:=Xh2 hd ht);clear hd ht)
 go_loopw [5,6] (fun s5 s6 wr=>Qyy w b i L D s5 s6 wr) (fun _ iv _=>(intOf iv+1).toNat)
 case atStart=>
  refine ⟨(x:Int),x+1,⟨#[]⟩,i+1,rfl,rfl,by omega,by omega,by omega,?_,(Xo0 HD),?_,(Xe1 HD)⟩
  ·have:(x+1)*(L+10)<=3*(L+10):=Tp _ (by omega)
   show 0+_<=_
   omega
  ·have:(x+1)*(D+5)<=3*(D+5):=Tp _ (by omega);omega
 case round=>
  obtain ⟨Z,q,S,j,rfl,rfl,hZ1,hZ2,hq,hS,Xg,hj,ht⟩:=hrel
  by_cases hZ:0<=Z
  ·have hZ':¬Z<0:=(by omega);obtain ⟨q2,rfl⟩:∃q2,q=q2+1:=⟨q-1,by omega⟩;rw[Ti,Nat.one_mul] at hS hj;have hSb:S.size<=100000:=(by omega);have hjb:j+D+4<=900000:=(by omega);have hn6:=Qfo b j 6 wr Xg (by omega) (by decide) (by decide);have HS:=Xh5 hS hj ht hn6 hq;clear hS hj ht hn6 Xg hq
   go_upto_block 2 with (refine (Xo3 HS).mono ?_;rintro e w2 ⟨⟨x6,hx6,rfl⟩,M2,U1⟩;(have H2:=Xh2 M2 U1);clear M2 U1)
   have hbl2:b<w2.heap.size:=(Xo0 H2).lt
   go_cut [5] (fun v wx=>Qyc wr b S (L+2) j (1+D) v wx)
   case first=>
    by_cases ZZ:x6=0/\0<kd
    ·obtain ⟨rfl,hkd⟩:=ZZ;have hkd':(0:Int)<(kd:Int):=(by omega);have K4:wrap64 ((kd:Int)-1)=(kd:Int)-1:=(by unfold wrap64;omega);have X5:=(Xe1 H) hkd w2 (j+1) (Xo0 H2) (by omega);have HE:=Ua X5;clear X5 hkd
     go_wp2_with (go_at_call 15;refine HE.out.mono ?_;rintro e w3 ⟨⟨S3,j3,rfl,hS3,JG,hj3⟩,T5⟩;(have H3:=Xh3 JG hj3 T5);clear JG hj3 T5)
     go_meet;exact ⟨_,j3,rfl,by simp only[Q4z];have:(⟨#[40]⟩:ByteArray).size=1:=rfl;have:(⟨#[41]⟩:ByteArray).size=1:=rfl;omega,(Xo0 H3),by have:=(Xo1 H3);omega,(Xe1 H2).trans0 (Xe2 H3)⟩
    ·by_cases hx3:x6<3
     ·have hx3':(x6:Int)<3:=(by omega);have P8:=Qok b (j+1) w2 (Xo0 H2) (by omega);have HM:=Ua P8;clear P8;have hz:((x6:Int)==0)=decide (x6=0):=by
       by_cases h0:x6=0
       ·subst h0;rfl
       ·rw[UL h0,Ui];omega
      have k9:x6=0->¬(0:Int)<(kd:Int):=fun h0 h1=>ZZ ⟨h0,by omega⟩
      by_cases y5:x6=0
      ·have hkd':=k9 y5;subst y5;clear ZZ k9 hz
       go_wp2_with (first
        |(go_at_call 74;refine (Qc0 false e3 a3 n3 c3 L3 w4 q6 (by have:=(Xo2 H3).2.2.1;omega) (by have:=(Xo2 H3).2.2.2;omega)).mono ?_;rintro r w5 ⟨rfl,M0⟩;have r7:=Qem (Xo2 H3).2.1 (Xo2 H3).2.2.1 (Xo2 H3).2.2.2;(have hsv:sv (Q1a false e3 L3)=.string ⟨(Q1a false e3 L3).toArray⟩:=rfl);(have Z1:(⟨(Q1a false e3 L3).toArray⟩:ByteArray).size<=6:=r7);rw[hsv];generalize (⟨(Q1a false e3 L3).toArray⟩:ByteArray)=S5 at Z1⊢;have H5:=Ua M0;clear M0 r7 hsv q6)
        |(go_at_call 72;refine (Qen neg3 e3 a3 n3 c3 L3 w3 (Xe3 H3) (Xo2 H3).1).mono ?_;rintro r w4 ⟨rfl,F1⟩;have q6:=(Xe3 H3).step F1;have H4:=Ua F1;clear F1)
        |(go_at_call 22;refine HM.out.mono ?_;rintro e w3 ⟨⟨neg3,e3,a3,n3,c3,L3,rfl,S9,z7⟩,JG,T5⟩;(have H3:=Xh4 JG T5 S9 z7);clear JG T5 S9 z7))
       go_meet;exact ⟨_,j+2,rfl,by simp only[Q4z];omega,((Xo0 H3).call (Below.next0 H4.out H5.out)),by omega,((Xe1 H2).trans0 (Xo1 H3)).past' (Below.next0 H4.out H5.out)⟩
      ·have Wv:((x6:Int)==0)=false:=(by rw[Ui];omega);clear ZZ k9 hz y5
       go_wp2_with (first
        |(go_at_call 74;refine (Qc0 false e3 a3 n3 c3 L3 w4 q6 (by have:=(Xo2 H3).2.2.1;omega) (by have:=(Xo2 H3).2.2.2;omega)).mono ?_;rintro r w5 ⟨rfl,M0⟩;have r7:=Qem (Xo2 H3).2.1 (Xo2 H3).2.2.1 (Xo2 H3).2.2.2;(have hsv:sv (Q1a false e3 L3)=.string ⟨(Q1a false e3 L3).toArray⟩:=rfl);(have Z1:(⟨(Q1a false e3 L3).toArray⟩:ByteArray).size<=6:=r7);rw[hsv];generalize (⟨(Q1a false e3 L3).toArray⟩:ByteArray)=S5 at Z1⊢;have H5:=Ua M0;clear M0 r7 hsv q6)
        |(go_at_call 72;refine (Qen neg3 e3 a3 n3 c3 L3 w3 (Xe3 H3) (Xo2 H3).1).mono ?_;rintro r w4 ⟨rfl,F1⟩;have q6:=(Xe3 H3).step F1;have H4:=Ua F1;clear F1)
        |(go_at_call 22;refine HM.out.mono ?_;rintro e w3 ⟨⟨neg3,e3,a3,n3,c3,L3,rfl,S9,z7⟩,JG,T5⟩;(have H3:=Xh4 JG T5 S9 z7);clear JG T5 S9 z7))
       go_meet;exact ⟨_,j+2,rfl,by simp only[Q4z];omega,((Xo0 H3).call (Below.next0 H4.out H5.out)),by omega,((Xe1 H2).trans0 (Xo1 H3)).past' (Below.next0 H4.out H5.out)⟩
     ·have hx3':¬(x6:Int)<3:=(by omega);have Wv:((x6:Int)==0)=false:=(by rw[Ui];omega);have Qn:=Qfo b (j+1) 3 w2 (Xo0 H2) (by omega) (by decide) (by decide);have HM:=Ua Qn;clear Qn ZZ
      go_upto_region 6 with fail
      go_wp2_with (refine HM.out.mono ?_;rintro e w3 ⟨⟨x3,hx3b,rfl⟩,JG,T5⟩;(have K4:IntKind.i64.wrap (49+(x3:Int))=49+(x3:Int):=by rw[Ut];omega);(have Q8:IntKind.u8.wrap (49+(x3:Int))=49+(x3:Int):=by rw[Xat];omega);(have Qu:=Qfp w3 (49+(x3:Int)) (UInt8.ofNat (49+x3)) (by rw[Xbh];omega));(have H3:=Xh2 JG T5);clear JG T5)
      go_meet;exact ⟨_,j+2,rfl,by simp only[Q4z,one_size];omega,((Xo0 H3).call (Ba)),by omega,((Xe1 H2).trans0 (Xe1 H3)).past' (Ba)⟩
   case rest=>
    obtain ⟨S4,j4,rfl,hS4,hd4,hj4,Zb⟩:=hcut;have hy:=Qsb b j4 3 wc hd4 (by omega) (by decide) (by decide);have HY:=Ua hy;have H4:=Xh2 hd4 Zb;clear hy hd4 Zb;have hS4b:S4.size<=200000:=by omega
    go_upto_if 50 with (refine HY.out.mono ?_;rintro e w5 ⟨⟨y,rfl⟩,WW,p5⟩;(have H5:=Xh2 WW p5);clear WW p5)
    go_cut [5] (fun v wx=>Qyc w5 b S4 2 (j4+1) 1 v wx)
    case first=>
     cases y with
     |false=>
      go_wp2_with fail
      go_meet;exact ⟨S4,j4+1,rfl,by omega,(Xo0 H5),by omega,Q0f.refl _ _⟩
     |true=>
      have hn5:=Qfo b (j4+1) 5 w5 (Xo0 H5) (by omega) (by decide) (by decide);have HM:=Ua hn5;clear hn5
      go_wp2_with (refine HM.out.mono ?_;rintro e w6 ⟨⟨x5,hx5b,rfl⟩,hd6,Q5⟩;(have K4:IntKind.i64.wrap (48+(x5:Int))=48+(x5:Int):=by rw[Ut];omega);(have Q8:IntKind.u8.wrap (48+(x5:Int))=48+(x5:Int):=by rw[Xat];omega);(have Qu:=Qfp w6 (48+(x5:Int)) (UInt8.ofNat (48+x5)) (by rw[Xbh];omega));(have H6:=Xh2 hd6 Q5);clear hd6 Q5)
      go_meet;exact ⟨_,j4+2,rfl,by simp only[Q4z,one_size];omega,((Xo0 H6).call (Ba)),by omega,(Xe1 H6).past' (Ba)⟩
    case rest=>
     obtain ⟨S7,j7,rfl,hS7,KH,hj7,ht7⟩:=hcut
     rename World=>wd
     have hS7b:S7.size<=300000:=(by omega);have H7:=Xh2 KH (((Xo2 HS).trans0 (Xe1 H4)).trans0 ((Xe1 H5).trans0 ht7));clear KH ht7
     by_cases hZ0:0<Z
     ·have L6:Bw wd (wd.alloc (.cells #[.string ⟨#[42]⟩,.string ⟨#[32,42,32]⟩] 9)):=Ba;have R5:=Qfo b j7 2 _ ((Xo0 H7).call L6) (by omega) (by decide) (by decide);have Y5:=Ul wd (.cells #[.string ⟨#[42]⟩,.string ⟨#[32,42,32]⟩] 9);have ZF:=Q0r wd (.cells #[.string ⟨#[42]⟩,.string ⟨#[32,42,32]⟩] 9);have Ql:b<wd.heap.size:=(Xo0 H7).lt;have HM:=Xh4 R5 L6 Y5 ZF;clear R5 L6 Y5 ZF
      go_wp2_with (refine (Xo0 HM).mono ?_;rintro e w8 ⟨⟨x2,hx2b,rfl⟩,QX,F6⟩;(have g0:w8.cell? ⟨wd.heap.size,0,none⟩=some (.string ⟨#[42]⟩):=by rw[F6.cell (p:=⟨wd.heap.size,0,none⟩) (Xe3 HM) (by show¬wd.heap.size=b;omega),Ux _ _ _ _ _ _ (Xo2 HM)];rfl);(have g1:w8.cell? ⟨wd.heap.size,1,none⟩=some (.string ⟨#[32,42,32]⟩):=by rw[F6.cell (p:=⟨wd.heap.size,1,none⟩) (Xe3 HM) (by show¬wd.heap.size=b;omega),Ux _ _ _ _ _ _ (Xo2 HM)];rfl);(obtain ⟨T,hT,Jw⟩:∃T:ByteArray,w8.cell? ⟨wd.heap.size,x2,none⟩=some (.string T)/\T.size<=3:=by (rcases (show x2=0∨x2=1 by omega) with rfl|rfl;exact ⟨_,g0,by decide⟩;exact ⟨_,g1,by decide⟩));(have YE:(x2:Int)<2:=by omega);(have H8:=Xh4 QX F6 g0 g1);clear QX F6 g0 g1)
      refine ⟨⟨Z-1,q2,_,j7+1,rfl,congrArg (Value.int .i64) (by omega),by omega,by omega,by have:=(Xe4 HS);omega,?_,(Xo0 H8),?_,((Xe1 H7).past' (Xo1 HM)).trans0 (Xo1 H8)⟩,by simp only[intOf];omega⟩
      ·simp only[Q4z];have h1:=(Xo0 HS);generalize q2*(L+10)=Q at h1⊢;omega
      ·have h1:=(Xo1 HS);generalize q2*(D+5)=Q at h1⊢;omega
     ·have hZ0':¬(0:Int)<Z:=hZ0
      go_wp2_with fail
      refine ⟨⟨Z-1,q2,S7,j7,rfl,congrArg (Value.int .i64) (by omega),by omega,by omega,by have:=(Xe4 HS);omega,?_,(Xo0 H7),?_,(Xe1 H7)⟩,by simp only[intOf];omega⟩
      ·have h1:=(Xo0 HS);generalize q2*(L+10)=Q at h1⊢;omega
      ·have h1:=(Xo1 HS);generalize q2*(D+5)=Q at h1⊢;omega
  ·have hZ':Z<0:=(by omega);have HS:=Xh2 Xg ht;clear Xg ht
   go_wp2_with fail
   go_ret;exact ⟨⟨S,j,rfl,by omega,(Xo0 HS),by omega⟩,(Xe1 HS)⟩
theorem Qse (b kd L D:Nat) (Ks:L<=50000) (hk:kd<=3) (O5:∀(w:World) (i:Nat),Q8w w b i->i+D<=900000->Calls Tryz.prog 40 #[.pointer (some ⟨b,0,none⟩),.int .i64 (kd:Int)] w (Qfq b i L D w)) (w:World) (i:Nat) (h:Q8w w b i) (hi:i+2+3*(D+1)<=900000):
 Calls Tryz.prog 15 #[.pointer (some ⟨b,0,none⟩),.int .i64 (kd:Int)] w (Qfq b i (1+3*(L+4)) (2+3*(D+1)) w):=by
 have JY:=Qsb b i 4 w h (by omega) (by decide) (by decide);have F3:=h.lt;have H:=Xh2 JY O5;clear JY O5 h
 go_enter Tryz.func15,Tryz.ntmps15
 go_upto_if 8 with (refine (Xo0 H).mono ?_;rintro e w1 ⟨⟨y,rfl⟩,hd,ht⟩;(have HD:=Xh2 hd ht);clear hd ht)
 go_cut [5] (fun v wx=>w1=wx/\∃S:ByteArray,v=.string S/\S.size<=1)
 case first=>
  cases y with
  |false=>
   go_wp2_with fail
   go_meet;exact ⟨rfl,_,rfl,by decide⟩
  |true=>
   go_wp2_with fail
   go_meet;exact ⟨rfl,_,rfl,by decide⟩
 case rest=>
  obtain ⟨rfl,S0,rfl,hS0⟩:=hcut
  rename World=>w1
  have Qn:=Qfo b (i+1) 3 w1 (Xo0 HD) (by omega) (by decide) (by decide);have HN3:=Ua Qn;clear Qn
  go_wp2_with (refine HN3.out.mono ?_;rintro e w2 ⟨⟨x,hx,rfl⟩,hd,ht⟩;(have KY:=Xh2 hd ht);clear hd ht)
  go_loopw [5,6] (fun s5 s6 wr=>Qyz w b i L D s5 s6 wr) (fun _ iv _=>(intOf iv+1).toNat)
  case atStart=>
   refine ⟨(x:Int),x+1,S0,i+2,rfl,rfl,by omega,by omega,by omega,?_,(Xo0 KY),?_,(Xe1 HD).trans0 (Xe1 KY)⟩
   ·have:(x+1)*(L+4)<=3*(L+4):=Tp _ (by omega);omega
   ·have:(x+1)*(D+1)<=3*(D+1):=Tp _ (by omega);omega
  case round=>
   obtain ⟨Z,q,S,j,rfl,rfl,hZ1,hZ2,hq,hS,Xg,hj,ht⟩:=hrel
   by_cases hZ:0<=Z
   ·have hZ':¬Z<0:=(by omega);obtain ⟨q2,rfl⟩:∃q2,q=q2+1:=⟨q-1,by omega⟩;rw[Ti,Nat.one_mul] at hS hj;have hSb:S.size<=200000:=(by omega);have ZT:=(Xe1 H) wr j Xg (by omega);have HS:=Xh5 hS hj ht ZT hq;clear hS hj ht ZT Xg hq
    go_upto_if 21 with (go_at_call 40;refine (Xo3 HS).mono ?_;rintro e w3 ⟨⟨S3,j3,rfl,hS3,JG,hj3⟩,T5⟩;(have H3:=Xh3 JG hj3 T5);clear JG hj3 T5)
    have Ql:b<w3.heap.size:=(Xo0 H3).lt
    by_cases hZ0:0<Z
    ·have L6:Bw w3 (w3.alloc (.cells #[.string ⟨#[32,43,32]⟩,.string ⟨#[45]⟩,.string ⟨#[32,45,32,32]⟩,.string ⟨#[43]⟩] 9)):=Ba;have R5:=Qfo b j3 4 _ ((Xo0 H3).call L6) (by have:=(Xo1 H3);have:=(Xo1 HS);omega) (by decide) (by decide);have Y5:=Ul w3 (.cells #[.string ⟨#[32,43,32]⟩,.string ⟨#[45]⟩,.string ⟨#[32,45,32,32]⟩,.string ⟨#[43]⟩] 9);have ZF:=Q0r w3 (.cells #[.string ⟨#[32,43,32]⟩,.string ⟨#[45]⟩,.string ⟨#[32,45,32,32]⟩,.string ⟨#[43]⟩] 9);have HM:=Xh4 R5 L6 Y5 ZF;clear R5 L6 Y5 ZF
     go_wp2_with (refine (Xo0 HM).mono ?_;rintro e w8 ⟨⟨x2,hx2b,rfl⟩,QX,F6⟩;(obtain ⟨T,hT,Jw⟩:∃T:ByteArray,w8.cell? ⟨w3.heap.size,x2,none⟩=some (.string T)/\T.size<=4:=Qiv (by rw[F6.block w3.heap.size (Xe3 HM) (by omega)];exact (Xo2 HM)) hx2b);(have YE:(x2:Int)<4:=by omega);(have H8:=Xh2 QX F6);clear QX F6)
     refine ⟨⟨Z-1,q2,_,j3+1,rfl,congrArg (Value.int .i64) (by omega),by omega,by omega,by have:=(Xe4 HS);omega,?_,(Xo0 H8),?_,(((Xo2 HS).trans0 (Xe2 H3)).past' (Xo1 HM)).trans0 (Xe1 H8)⟩,by simp only[intOf];omega⟩
     ·simp only[Q4z];have h1:=(Xo0 HS);generalize q2*(L+4)=Q at h1⊢;omega
     ·have h1:=(Xo1 HS);have h2:=(Xo1 H3);generalize q2*(D+1)=Q at h1⊢;omega
    ·have hZ0':¬(0:Int)<Z:=hZ0
     go_wp2_with fail
     refine ⟨⟨Z-1,q2,_,j3,rfl,congrArg (Value.int .i64) (by omega),by omega,by omega,by have:=(Xe4 HS);omega,?_,(Xo0 H3),?_,(Xo2 HS).trans0 (Xe2 H3)⟩,by simp only[intOf];omega⟩
     ·simp only[Q4z];have h1:=(Xo0 HS);generalize q2*(L+4)=Q at h1⊢;omega
     ·have h1:=(Xo1 HS);have h2:=(Xo1 H3);generalize q2*(D+1)=Q at h1⊢;omega
   ·have hZ':Z<0:=(by omega);have HS:=Xh2 Xg ht;clear Xg ht
    go_wp2_with fail
    go_ret;exact ⟨⟨S,j,rfl,by omega,(Xo0 HS),by omega⟩,(Xe1 HS)⟩
def tl:Nat->Nat
 |0=>48
 |k+1=>3*((1+3*(tl k+4))+10)
def td:Nat->Nat
 |0=>22
 |k+1=>1+3*((2+3*(td k+1))+5)
theorem Qfq.more {b i L D L' D':Nat} {w w':World} {e:Ending} (h:Qfq b i L D w e w') (hL:L<=L') (hD:D<=D'):Qfq b i L' D' w e w':=by
 obtain ⟨⟨S,j,h1,h2,h3,h4⟩,h5⟩:=h;exact ⟨⟨S,j,h1,by omega,h3,by omega⟩,h5⟩
theorem Qiw (b:Nat):∀(k:Nat),k<=3->∀(w:World) (i:Nat),Q8w w b i->i+td k<=900000->Calls Tryz.prog 40 #[.pointer (some ⟨b,0,none⟩),.int .i64 (k:Int)] w (Qfq b i (tl k) (td k) w)
 |0,_,w,i,h,hi=>Qsd b 0 6 2 (by decide) (by decide) (by decide) (by decide) (fun h=>absurd h (by decide)) w i h (by simp[td] at hi;omega)
 |k+1,hk,w,i,h,hi=>by
  have KM:tl k<=4578/\td k<=2092:=by
   rcases (show k=0∨k=1∨k=2 by omega) with rfl|rfl|rfl <;> simp[tl,td]
  have ih:=Qiw b k (by omega);refine (Qsd b (k+1) (1+3*(tl k+4)) (2+3*(td k+1)) (by omega) (by omega) (by omega) hk (fun _ w2 i2 h2 hi2=>?_) w i h (by simp[td] at hi;omega)).mono fun e w' h=>h.more (by simp[tl]) (by simp[td]);have:=Qse b k (tl k) (td k) (by omega) (by omega) ih w2 i2 h2 (by omega);rwa[show ((k+1:Nat):Int)-1=(k:Int) by omega]
theorem Qsf (b:Nat) (w:World) (i:Nat) (h:Q8w w b i) (hi:i<=700000):Calls Tryz.prog 15 #[.pointer (some ⟨b,0,none⟩),.int .i64 3] w (Qfq b i 130000 60000 w):=
 (Qse b 3 (tl 3) (td 3) (by simp[tl]) (by decide) (Qiw b 3 (by decide)) w i h (by simp only[td];omega)).mono fun e w' h=>h.more (by simp[tl]) (by simp[td])
end Go.Proofs.YtdilmfakkppgpaaGreatDoor
