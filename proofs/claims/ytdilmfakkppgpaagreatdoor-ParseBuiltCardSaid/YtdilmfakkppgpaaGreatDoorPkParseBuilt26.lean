/- Part 26 of the proof of LawParseBuilt: TermW, WriteK. Condition: as each theorem says; none at the end. -/
import Derived.Lib.Join
import Derived.Test.YtdilmfakkppgpaaGreatDoorPkParseBuilt25
set_option maxRecDepth 100000
set_option maxHeartbeats 16000000
namespace Go.Proofs.YtdilmfakkppgpaaGreatDoor
open Go.RowKit WordsM DecM
theorem Qct:(Tryz.prog.info? 9).map (fun i=>(i.zero,i.size,i.bytes))=some (some (.string ⟨#[]⟩),1,16):=by kernel_rfl
def Qo3 (w:World):Prop:=∀W,Bw w W->Lib.TabIs Tryz.prog W "internal/strconv.uint64pow10" .u64 Lib.pow10Tab
theorem Qo3.step {w w':World} (h:Qo3 w) (hb:Bw w w'):Qo3 w':=fun W hW=>h W (Below.next0 hb hW)
theorem Qi9:∀(E F:List Int) (i:Nat),Q2w i (E++F)=Q2w i E++Q2w (i+E.length) F
 |[],F,i=>by simp[Q2w]
 |k::r,F,i=>by
  rw[TD,Q2w,Q2w,Qi9 r F (i+1),UO,Uz];rw[show i+1+r.length=i+(r.length+1) by omega]
theorem Qo4 {E:List Int} {i:Nat} {k:Int} (h:E[i]?=some k):Q2w 0 (E.take (i+1))=Q2w 0 (E.take i)++Qk5 i k:=by
 have B0:=(Um.1 h).1;rw[Tc,h,Qi9]
 congr 1
 show Q2w (0+(E.take i).length) [k]=_
 rw[Tn,Xa9 (by omega),UB,Q2w,Q2w,TV]
theorem Qai:∀(l:List (LU)),Lib.join l [42]=Q4u l
 |[]=>rfl
 |[x]=>by rw[Lib.join_one];rfl
 |x::y::r=>by
  rw[Lib.join_cons,Q4u,<-Qai (y::r),Lib.join_cons];simp[Lib.joinTail]
def Qp1 (w:World) (B:Nat) (a:OA) (n c:Nat) (ts:List (LU)):Prop:=Row w B 9 1 a n c (ts.map sv)
def Qwt (w:World) (E:List Int) (s3 s10:Value) (wx:World):Prop:=∃(i:Nat) (a:OA) (n c:Nat),s3=.slice a n c/\s10=.int .i64 (i:Int)/\i<=E.length/\n<=i/\Qp1 wx w.heap.size a n c (Q2w 0 (E.take i))/\Bw w wx
theorem Qeh (ty:TypeId) (w0 w:World) (hb:Bw w0 w) (a:OA) (n c:Nat) (ts:List (LU)) (hr:Qp1 w w0.heap.size a n c ts) (t:LU) (hn:n<=1000) (v:Value) (hv:v=sv t):
 ∃a' c' w',(Builtin.append_ #[77,77] ty #[.slice a n c,.slice (some ⟨w.heap.size,0,none⟩) 1 1]).run Tryz.prog (w.alloc (.cells #[v] 9))=.ok (.slice a' (n+1) c') w'/\Qp1 w' w0.heap.size a' (n+1) c' (ts++[t])/\Bw w0 w':=by
 subst hv;obtain ⟨i0,O1,P1,K1,J1⟩:=Q0l Qct;have D0:=hb.alloc hb.size (.cells #[sv t] 9);obtain ⟨a',c',w',I1,I0,m7,N0,_⟩:=Q1u w0 (w.alloc (.cells #[sv t] 9)) ty 77 9 i0 _ 1 16 Tryz.underlying77 O1 P1 K1 J1 rfl (by decide) w0.heap.size D0 D0.size a n c _ (hr.alloc _) ⟨w.heap.size,0,none⟩ 1 1 [sv t] rfl (TA (cs:= #[sv t]) (Ul _ _)) (by simp[Value.oneCell',sv]) (n+1) rfl (by omega) (by omega);exact ⟨a',c',w',I1,by unfold Qp1;rw[UP];exact I0,N0⟩
theorem Qo5 {v:Nat} {e:Int} (hv:v<(2^64)^64) (h1: -65536<=e) (h2:e<=65536):(Q2s false v e).length<=1400:=by
 have hd:=DecM.dec_len 1300 v (Ue hv Qha) (by decide);have he:=DecM.dec_len 6 e.natAbs (by omega) (by decide);unfold Q2s Qa1;rw[Uq (by decide),TW,Uj]
 split
 ·simp;omega
 ·rw[Uz]
  split
  ·rw[Uz];omega
  ·omega
theorem Qo6 {i:Nat} {k:Int} (hi:i<9) (h8:k<=8):∀t∈Qk5 i k,t.length<=4:=by
 intro t ht;unfold Qk5 at ht
 split at ht
 ·rw[Uy] at ht;subst ht;rw[Q2d (by omega)];simp
 ·split at ht
  ·rw[Uy] at ht;subst ht;rw[Q2d (by omega),Q2d (by omega)];simp
  ·cases ht
theorem Qo7 (i:Nat) (k:Int):(Qk5 i k).length<=1:=by
 unfold Qk5
 split
 ·simp
 ·split <;> simp
theorem Q8n:∀(E:List Int) (i:Nat),i+E.length<=9->(∀x∈E,x<=8)->(∀t∈Q2w i E,t.length<=4)/\(Q2w i E).length<=E.length
 |[],i,_,_=>⟨(fun t h=>by cases h),Ug _⟩
 |k::r,i,hi,h=>by
  rw[Uz] at hi;obtain ⟨h1,h2⟩:=Q8n r (i+1) (by omega) (fun x hx=>h x (by simp[hx]));rw[Q2w];refine ⟨fun t ht=>?_,?_⟩
  ·rcases UY.1 ht with h3|h3
   ·exact Qo6 (by omega) (h k (by simp)) t h3
   ·exact h1 t h3
  ·rw[Uj,Uz];have:=Qo7 i k;omega
theorem Qcu {N:Nat}:∀(ts:List (LU)),(∀t∈ts,t.length<=N)->(Q4u ts).length<=ts.length*(N+1)
 |[],_=>by simp[Q4u]
 |[x],h=>by
  have:=h x (by simp);simp only[Q4u,Uz,Xan];omega
 |x::y::r,h=>by
  have h1:=h x (by simp);have h2:=Qcu (y::r) (fun t ht=>h t (by simp[ht]));rw[Q4u,Uj,Uz];rw[Uz,Ti];omega
theorem Qcv (ty:TypeId) (w0 w:World) (hb:Bw w0 w) (a:OA) (n c:Nat) (ts:List (LU)) (hr:Qp1 w w0.heap.size a n c ts) (B:Nat) (b:OA) (m d:Nat) (us:List (LU)) (hs:Qp1 w B b m d us) (hn:n+m<=1000):
 ∃a' c' w',(Builtin.append_ #[77,77] ty #[.slice a n c,.slice b m d]).run Tryz.prog w=.ok (.slice a' (n+m) c') w'/\Qp1 w' w0.heap.size a' (n+m) c' (ts++us)/\Bw w0 w':=by
 obtain ⟨i0,O1,P1,K1,J1⟩:=Q0l Qct;rcases hs.form with ⟨rfl,rfl,rfl,hu⟩|⟨g,cur,rfl,_⟩
 ·have Zw:us=[]:=List.map_eq_nil_iff.1 hu;subst Zw;exact ⟨a,c,w,Q72 w _ ty _ i0 Tryz.underlying77 O1 a none n c 0 hr.cap.1,by simpa using hr,hb⟩
 ·have V0:∀j u,(us.map sv)[j]?=some u->w.cell? ((⟨g,0,none⟩:Addr).add j)=some u:=fun j u hj=>by
   obtain ⟨g',e,_,_,h⟩:=hs.at_ hj;injection e with e;injection e with e;subst e;rw[Xao,UB];exact h
  obtain ⟨a',c',w',I1,I0,m7,N0,_⟩:=Q1u w0 w ty 77 9 i0 _ 1 16 Tryz.underlying77 O1 P1 K1 J1 rfl (by decide) w0.heap.size hb hb.size a n c _ hr ⟨g,0,none⟩ m d (us.map sv) hs.len V0 (by intro u hu;obtain ⟨t,_,rfl⟩:=Tm.1 hu;rfl) (n+m) rfl (by omega) (by omega);exact ⟨a',c',w',I1,by unfold Qp1;rw[UP];exact I0,N0⟩
theorem Qcw {w:World} {B:Nat} {a:OA} {n c:Nat} {ts:List (LU)} (h:Qp1 w B a n c ts) (hn:n<=1000) (ht:∀t∈ts,t.length<=1400):
 Calls Tryz.prog 70 #[.slice a n c,.string ⟨#[42]⟩] w fun e w'=>e=.returned (sv (Q4u ts))/\Bw w w':=by
 have R0:ts.length=n:=by have:=h.len;simpa using this
 rcases h.form with ⟨rfl,rfl,rfl,hu⟩|⟨g,cur,rfl,_,hg,_⟩
 ·have Zw:ts=[]:=List.map_eq_nil_iff.1 hu;subst Zw;refine (Tryz.Qzh none 0 ⟨#[42]⟩ w).mono ?_;rintro e w' ⟨rfl,rfl⟩;exact ⟨rfl,Uf _ _⟩
 ·have QD:(ts.map fun t=>(⟨t.toArray⟩:ByteArray)).map (·.data.toList)=ts:=by
   rw[List.map_map];exact (List.map_congr_left fun t _=>by simp).trans (List.map_id ts)
  have hj:=Qcu ts ht;have X4:=Tryz.Qzi g 0 c (ts.map fun t=>(⟨t.toArray⟩:ByteArray)) ⟨#[42]⟩ w (fun j x hx=>by
   rw[UT] at hx;obtain ⟨t,Y1,rfl⟩:=Option.map_eq_some_iff.1 hx;obtain ⟨g',e,_,_,h2⟩:=h.at_ (j:=j) (x:=sv t) (by rw[UT,Y1];rfl);injection e with e;injection e with e;subst e;rw[UB];exact h2) hg (by rw[UQ];omega) (by rw[UQ,R0];exact h.cap.1) (by
   rw[QD]
   show (Lib.join ts [42]).length<=_
   rw[Qai];have:ts.length*1401<=1000*1401:=Tp _ (by omega);omega)
  rw[QD,UQ,R0] at X4;refine X4.mono ?_;rintro e w' ⟨rfl,hb⟩;refine ⟨?_,hb⟩
  show Ending.returned (.string ⟨(Lib.join ts [42]).toArray⟩)=_
  rw[Qai]
theorem Qia {k:Nat} {m:Q01} (h:OkM k m) (hl:Low (2^64) m.ws):Qqm m.term.1=Q28 false m.exp m.ws/\dyT (Qqm m.term.1)=Q1a false m.exp m.ws/\Q0i false m.exp m.ws/\(Q1a false m.exp m.ws).length<=1400:=by
 obtain ⟨⟨h1,h2⟩,h3⟩:=h;rcases Q21 h2 hl with ⟨h4,_⟩|⟨_,ho,_,hv,g1,g2⟩
 ·exact absurd h4 h3
 have h5:Q0i false m.exp m.ws:=by
  unfold Q0i at h2⊢;rw[Uq h3] at h2⊢;exact h2
 have ha:Qqm m.term.1=Q28 false m.exp m.ws:=Qf9 ho;refine ⟨ha,?_,h5,?_⟩
 ·rw[ha,show Q1a false m.exp m.ws=Q2s false (val (2^64) m.ws) m.exp from Us h5];exact Qk6 ho
 ·rw[show Q1a false m.exp m.ws=Q2s false (val (2^64) m.ws) m.exp from Us h5];exact Qo5 hv g1 g2
theorem Quf {e e':Int} {n':Bool} {L K:LN} (h1:Q0i false e L) (l1:Low (2^64) L) (h2:Q0i n' e' K) (l2:Low (2^64) K) (hv:Q28 n' e' K=dy 1 0):decide (false=n'/\e=e'/\L=K)=decide (Q28 false e L=1):=by
 refine decide_eq_decide.2 ⟨fun ⟨a,b,c⟩=>?_,fun h=>?_⟩
 ·subst a;subst b;subst c;rw[hv];rfl
 ·exact Qq8 h1 l1 h2 l2 (h.trans hv.symm)
theorem Qib (k:Nat) (m:Q01) (a:OA) (l c:Nat) (b:OA) (n d:Nat) (w:World) (hw:WordsIn w a l c m.ws) (he:Q0j w b n d m.es) (D3:OkM k m) (Y4:k<=4) (hT:Q2n w) (hP:Qo3 w):
 Calls Tryz.prog 33 #[.agg #[.bool m.neg,.int .i64 m.exp,.slice a l c,.slice b n d]] w fun r w'=>r=.returned (sv (Q25 m.term))/\Bw w w':=by
 have hX:=Q38.new w (.bool m.neg) (.int .i64 m.exp) (.slice a l c) (.slice b n d) 44;have C2:Bw w (w.alloc (.cells #[.bool m.neg,.int .i64 m.exp,.slice a l c,.slice b n d] 44)):=Ba;have Z9:=Q0r w (.cells #[.bool m.neg,.int .i64 m.exp,.slice a l c,.slice b n d] 44);have R0:=he.len;have Yb:m.es.length<=4:=by have:=D3.1.1.1;omega
 have P8:=Q1x D3.1.1;have V3:=he.cap;have JW:=he.most;have e0:=hX.c0;have e1:=hX.c1;have e2:=hX.c2;have e3:=hX.c3;have H:=Xh9 hw he D3 hT hP hX C2 Z9 P8;clear hw he D3 hT hP hX C2 Z9 P8
 go_enter Tryz.func33,Tryz.ntmps33
 go_wp2_with fail
 generalize S1:w.alloc (.cells #[.bool m.neg,.int .i64 m.exp,.slice a l c,.slice b n d] 44)=W1 at e0 e1 e2 e3 H⊢;clear S1
 go_loopw [3,10] (fun s3 s10 wr=>Qwt W1 m.es s3 s10 wr) (fun _ iv _=>n-(intOf iv).toNat)
 case atStart=>exact ⟨0,none,0,0,rfl,rfl,Uu _,Ug _,Row.nil_ _ _ _ _,Uf _ _⟩
 case round=>
  obtain ⟨i,a3,n3,c3,rfl,rfl,hi,Qn,ZP,Q0⟩:=hrel
  by_cases B0:i<m.es.length
  ·have E0:(i:Int)<(n:Int):=(by omega);obtain ⟨x,hx⟩:∃x,m.es[i]?=some x:=⟨_,Ub B0⟩;obtain ⟨b0,o0,N6,C4,E6⟩:=(((Xo1 H).step (Xo6 H)).step Q0).rd.at_ hx;subst N6;obtain ⟨y5,M5⟩:=(Xe8 H) x (Ud hx);have S9:=Qo4 hx;have M7:=Tryz.J0b (i+1) (by omega) wr;rw[show ((i+1:Nat):Int)=(i:Int)+1 by omega] at M7;obtain ⟨q,hq⟩:∃q,Lib.decDigits (i+1)=[q]:=⟨_,Q2d (by omega)⟩;rw[hq] at M7;have Q2:wrap64 ((i:Int)+1)=(i:Int)+1:=(by unfold wrap64;omega);have HS:=Xh6 ZP Q0 S9 M7 hq hx;clear ZP Q0 S9 M7 hq hx
   by_cases h1:x=1
   ·subst h1;obtain ⟨a5,c5,w5,WC,Zc,M0⟩:=Qeh 77 W1 wr (Xo1 HS) a3 n3 c3 _ (Xo0 HS) [120,q] (by omega) (.string ⟨#[120,q]⟩) rfl;have H5:=Xh2 Zc M0;clear Zc M0
    go_wp2_with (first|(at_builtin;refine Q07 rfl (.tmp 18) (.tmp 23) 77 77 rfl _ _ rfl rfl _ _ WC ?_)|(refine (Xo3 HS).mono ?_;rintro r w4 ⟨rfl,rfl⟩))
    refine ⟨⟨i+1,a5,n3+1,c5,rfl,congrArg (Value.int .i64) (by omega),B0,by omega,?_,(Xe1 H5)⟩,by simp only[intOf];omega⟩;rw[(Xo2 HS),show Qk5 i 1=[[120,q]] by rw[Qk5,Us rfl,show dec (i+1)=[q] from (Xo4 HS)]];exact (Xo0 H5)
   ·have We:(x==1)=false:=beq_eq_false_iff_ne.2 h1
    by_cases h2:1<x
    ·obtain ⟨K,hK⟩:∃K:Nat,x=(K:Int):=⟨x.toNat,by omega⟩;subst hK;have hit2:=Tryz.J0b K (by omega) wr;obtain ⟨q2,N4⟩:∃q2,Lib.decDigits K=[q2]:=⟨_,Q2d (by omega)⟩;rw[N4] at hit2;obtain ⟨a5,c5,w5,WC,Zc,M0⟩:=Qeh 77 W1 wr (Xo1 HS) a3 n3 c3 _ (Xo0 HS) [120,q,94,q2] (by omega) (.string ⟨#[120,q,94,q2]⟩) rfl;have h1n:¬K=1:=(by omega);have h2n:1<K:=(by omega);have H5:=Xh6 Zc M0 hit2 N4 h1n h2n;clear Zc M0 hit2 N4 h1n h2n
     go_wp2_with (first|(at_builtin;refine Q07 rfl (.tmp 28) (.tmp 37) 77 77 rfl _ _ rfl rfl _ _ WC ?_)|(go_at_call_of 67 (Value.int .i64 (K:Int));refine (Xo2 H5).mono ?_;rintro r w6 ⟨rfl,rfl⟩)|(refine (Xo3 HS).mono ?_;rintro r w4 ⟨rfl,rfl⟩))
     refine ⟨⟨i+1,a5,n3+1,c5,rfl,congrArg (Value.int .i64) (by omega),B0,by omega,?_,(Xo1 H5)⟩,by simp only[intOf];omega⟩;rw[(Xo2 HS),show Qk5 i (K:Int)=[[120,q,94,q2]] by
      rw[Qk5,Uq h1,Us h2,show dec (i+1)=[q] from (Xo4 HS),show (K:Int).toNat=K by omega,show dec K=[q2] from (Xo3 H5)];rfl]
     exact (Xo0 H5)
    ·have Jb:¬(1<x):=h2;have HX0:=Xh2 h1 h2;clear h1 h2
     go_wp2_with fail
     refine ⟨⟨i+1,a3,n3,c3,rfl,congrArg (Value.int .i64) (by omega),B0,by omega,?_,(Xo1 HS)⟩,by simp only[intOf];omega⟩;rw[(Xo2 HS),show Qk5 i x=[] by rw[Qk5,Uq (Xo0 HX0),Uq (by have:=(Xe1 HX0);omega)],TV];exact (Xo0 HS)
  ·have E0:¬((i:Int)<(n:Int)):=(by omega);have A6:i=m.es.length:=(by omega);rw[A6,Ta] at ZP;have HS:=Xh2 ZP Q0;clear ZP Q0 A6;have hlT:(Q2w 0 m.es).length=n3:=(by have:=(Xo0 HS).len;simpa using this);have hn3':n3<=4:=(by omega);have habs:=Qnc m.neg m.exp a l c m.ws wr (((Xo0 H).step (Xo6 H)).step (Xe1 HS)) (Xo2 H).1.2 (Xo2 H).2;have f0:=((Xe1 HS).cell (p:=⟨w.heap.size,0,none⟩) (Xo7 H)).trans e0;have f1:=((Xe1 HS).cell (p:=⟨w.heap.size,1,none⟩) (Xo7 H)).trans e1;have f2:=((Xe1 HS).cell (p:=⟨w.heap.size,2,none⟩) (Xo7 H)).trans e2;have f8:=(Xo0 H).low;obtain ⟨g1,g2,g3,g4⟩:=Qia (Xo2 H) f8;have Vg:=(Q8n m.es 0 (by omega) (fun x hx=>((Xe8 H) x hx).2)).1;have P0:∀t∈[Q1a false m.exp m.ws]++Q2w 0 m.es,t.length<=1400:=fun t ht=>by
    rcases UY.1 ht with h|h
    ·rw[Uy] at h;rw[h];exact g4
    ·have:=Vg t h;omega
   have HA:=Xh6 habs hlT g1 g2 g3 P0;clear habs hlT g1 g2 g3 g4 Vg P0 f8
   by_cases o8:Q2w 0 m.es=[]
   ·have d8:((n3:Int)==0)=true:=(by rw[<-(Xo1 HA),o8];rfl);have HT0:=Ua o8;clear o8
    go_upto_region 11 with (go_at_call_of 68 (Value.agg #[.bool m.neg,.int .i64 m.exp,.slice a l c]);refine (Xo0 HA).mono ?_;rintro r w4 ⟨a4,l4,c4,rfl,J8,F1⟩;have H4:=Xh2 J8 F1;clear J8 F1)
    go_quiet (fail)
    have i8:Bw W1 ((w4.alloc (.cells #[.bool false,.int .i64 m.exp,.slice a4 l4 c4] 41)).drewN nq):=Below.drewN' ((Below.next0 (Xe1 HS) (Xe1 H4)).alloc (Below.next0 (Xe1 HS) (Xe1 H4)).size _) _;have hN:=Q02.new w4 (.bool false) (.int .i64 m.exp) (.slice a4 l4 c4) 41;have Wi:WordsIn ((w4.alloc (.cells #[.bool false,.int .i64 m.exp,.slice a4 l4 c4] 41)).drewN nq) a4 l4 c4 m.ws:=(Xo0 H4).toWordsIn.step (Below.drewN' (Ba) _);have hsq:Qp1 ((w4.alloc (.cells #[.bool false,.int .i64 m.exp,.slice a4 l4 c4] 41)).drewN nq) W1.heap.size a3 n3 c3 (Q2w 0 m.es):=((Xo0 HS).call (Xe1 H4)).alloc _;generalize Qp:(w4.alloc (.cells #[.bool false,.int .i64 m.exp,.slice a4 l4 c4] 41)).drewN nq=Wq at i8 Wi hsq⊢;have n0:Wq.cell? ⟨w4.heap.size,0,none⟩=some (.bool false):=(by rw[<-Qp];exact hN.c0);have n1:Wq.cell? ⟨w4.heap.size,1,none⟩=some (.int .i64 m.exp):=(by rw[<-Qp];exact hN.c1);have n2:Wq.cell? ⟨w4.heap.size,2,none⟩=some (.slice a4 l4 c4):=(by rw[<-Qp];exact hN.c2);clear Qp;have r7:=Qmk false m.exp a4 l4 c4 m.ws Wq Wi (by have:=Q2b (Xo4 HA) (Xo0 H4).toWordsIn;omega) (by have:=Q2b (Xo4 HA) (Xo0 H4).toWordsIn;omega) ((Xo4 H).step (Below.next0 (Xo6 H) i8));have HQ:=Xh3 i8 hsq r7;clear i8 Wi hsq r7 hN
    go_wp2_with (first
     |(go_at_call_of 69 (Value.agg #[.bool false,.int .i64 m.exp,.slice a4 l4 c4]);refine (Xe2 HQ).mono ?_;rintro r w7 ⟨rfl,F7⟩
       have Jq:=Below.next0 (Xo0 HQ) F7;obtain ⟨a8,c8,w8,I2,Ve,B4⟩:=Qcv 77 W1 (w7.alloc (.cells #[sv (Q1a false m.exp m.ws)] 9)) (Jq.alloc Jq.size _) (some ⟨w7.heap.size,0,none⟩) 1 1 [Q1a false m.exp m.ws] ((Row.lit w7 (Ug _) 9 1 #[sv (Q1a false m.exp m.ws)] 1 (by decide) rfl).lower Jq.size) W1.heap.size a3 n3 c3 (Q2w 0 m.es) (((Xo1 HQ).call F7).alloc _) (by omega);have Q6:1+n3<=1000:=(by omega);generalize 1+n3=N8 at I2 Ve Q6;have Xw:=Qcw Ve Q6 (Xe5 HA);have H8:=Xh2 Xw B4;clear F7 Jq Ve B4 Xw)
     |(at_builtin;refine Q07 rfl (.tmp 54) (.tmp 55) 77 77 rfl _ _ rfl rfl _ _ I2 ?_)
     |(go_at_call_of 70 (Value.slice a8 N8 c8);refine (Xo0 H8).mono ?_;rintro r w9 ⟨rfl,Z4⟩;have H9:=Ua Z4;clear Z4))
    go_ret;refine ⟨?_,Below.next0 (Xo6 H) (Below.next0 (Xe1 H8) H9.out)⟩;rw[Q25,Q3y,Us (by exact .inl HT0.out),(Xo3 HA)];rfl
   ·have d8:((n3:Int)==0)=false:=by
     rw[Ui];intro e;exact o8 (Tg (by rw[(Xo1 HA)];omega))
    have HT0:=Ua o8;clear o8
    go_upto_region 11 with (go_at_call_of 68 (Value.agg #[.bool m.neg,.int .i64 m.exp,.slice a l c]);refine (Xo0 HA).mono ?_;rintro r w4 ⟨a4,l4,c4,rfl,J8,F1⟩;have H4:=Xh2 J8 F1;clear J8 F1)
    have i8:Bw W1 (w4.alloc (.cells #[.bool false,.int .i64 m.exp,.slice a4 l4 c4] 41)):=(Below.next0 (Xe1 HS) (Xe1 H4)).alloc (Below.next0 (Xe1 HS) (Xe1 H4)).size _;have hN:=Q02.new w4 (.bool false) (.int .i64 m.exp) (.slice a4 l4 c4) 41;have Wi:WordsIn (w4.alloc (.cells #[.bool false,.int .i64 m.exp,.slice a4 l4 c4] 41)) a4 l4 c4 m.ws:=(Xo0 H4).toWordsIn.step (Ba);have hsq:Qp1 (w4.alloc (.cells #[.bool false,.int .i64 m.exp,.slice a4 l4 c4] 41)) W1.heap.size a3 n3 c3 (Q2w 0 m.es):=((Xo0 HS).call (Xe1 H4)).alloc _;have hlq:=Q0r w4 (.cells #[.bool false,.int .i64 m.exp,.slice a4 l4 c4] 41);generalize Qp:w4.alloc (.cells #[.bool false,.int .i64 m.exp,.slice a4 l4 c4] 41)=Wq at i8 hN Wi hsq hlq⊢;clear Qp;have n0:=hN.c0;have n1:=hN.c1;have n2:=hN.c2;have HQ:=Xh5 i8 hN Wi hsq hlq;clear i8 hN Wi hsq hlq
    go_cut [51] (fun v wx=>∃bb,v=.bool bb/\(!decide (Q28 false m.exp m.ws=1))=bb/\Bw Wq wx)
    case first=>
     go_region_with (first
      |(go_at_call_of 20 (Value.int .i64 1)
        refine (Qa3 1 _ (by decide) (((Xo3 H).step (Below.next0 (Xo6 H) (Xo0 HQ))).step (by first|exact Uf _ _|exact Q05 _))).mono ?_;rintro r w5 ⟨n5,e5,a5,l5,c5,L5,rfl,hi5,hv5,hw5,M0⟩;have Vn:Bw Wq w5:=by first|exact M0|exact Below.next0 (Q05 _) M0
        have k0:=(Vn.cell (p:=⟨w4.heap.size,0,none⟩) (Xe4 HQ)).trans n0;have k1:=(Vn.cell (p:=⟨w4.heap.size,1,none⟩) (Xe4 HQ)).trans n1;have k2:=(Vn.cell (p:=⟨w4.heap.size,2,none⟩) (Xe4 HQ)).trans n2;have P8:=Qjq false m.exp a4 l4 c4 m.ws n5 e5 a5 l5 c5 L5;have hso:=Quf (Xo4 HA) (Xo2 HQ).low hi5 hw5.toWordsIn.low hv5;have H5:=Xh4 Vn hw5 P8 hso;clear M0 Vn hw5 P8 hso hi5 hv5)
      |(go_at_call_of 19 (Value.agg #[.bool false,.int .i64 m.exp,.slice a4 l4 c4])
        refine ((Xo2 H5) _ (((Xo2 HQ).step (Xo0 H5)).step (by first|exact Uf _ _|exact Q05 _)) ((Xo1 H5).toWordsIn.step (by first|exact Uf _ _|exact Q05 _)) (by have:=Q2b (Xo4 HA) (Xo2 HQ);omega)).mono ?_;rintro r w6 ⟨rfl,U2⟩;rw[(Xe3 H5)];have hb6':Bw Wq w6:=by first|exact Below.next0 (Xo0 H5) U2|exact Below.next0 (Xo0 H5) (Below.next0 (Q05 _) U2)
        have H6:=Ua hb6';clear U2 hb6'))
     all_goals go_wp2_with fail
     all_goals go_meet
     all_goals exact ⟨_,rfl,rfl,H6.out⟩
    case rest=>
     obtain ⟨bb,rfl,E3,QO⟩:=hcut;have r0:=(QO.cell (p:=⟨w4.heap.size,0,none⟩) (Xe4 HQ)).trans n0;have r1:=(QO.cell (p:=⟨w4.heap.size,1,none⟩) (Xe4 HQ)).trans n1;have r2:=(QO.cell (p:=⟨w4.heap.size,2,none⟩) (Xe4 HQ)).trans n2;have N0:=Below.next0 (Xo0 HQ) QO;have hsc:Qp1 wc W1.heap.size a3 n3 c3 (Q2w 0 m.es):=(Xo3 HQ).call QO;have hwc:=(Xo2 HQ).step QO;clear n0 n1 n2;cases bb with
     |false=>
      have h1:Q28 false m.exp m.ws=1:=(by simpa using E3);have Xw:=Qcw hsc (by omega) (fun t ht=>(Xe5 HA) t (by simp[ht]));have HR:=Xh3 h1 Xw N0;clear h1 Xw N0 hsc hwc E3 QO
      go_wp2_with (go_at_call_of 70 (Value.slice a3 n3 c3);refine (Xo1 HR).mono ?_;rintro r w9 ⟨rfl,Z4⟩;have H9:=Ua Z4;clear Z4)
      go_ret;refine ⟨?_,Below.next0 (Xo6 H) (Below.next0 (Xe2 HR) H9.out)⟩;rw[Q25,Q3y,Uq (by
       rintro (h|h)
       ·exact HT0.out h
       ·exact h ((Xo2 HA).trans (Xo0 HR)))]
      rfl
     |true=>
      have h1:Q28 false m.exp m.ws≠1:=(by simpa using E3);have r7:=Qmk false m.exp a4 l4 c4 m.ws wc hwc (by have:=Q2b (Xo4 HA) hwc;omega) (by have:=Q2b (Xo4 HA) hwc;omega) ((Xo4 H).step (Below.next0 (Xo6 H) N0));have HR:=Xh4 N0 hsc r7 h1;clear h1 r7 N0 hsc hwc E3 QO
      go_wp2_with (first
       |(go_at_call_of 69 (Value.agg #[.bool false,.int .i64 m.exp,.slice a4 l4 c4]);refine (Xo2 HR).mono ?_;rintro r w7 ⟨rfl,F7⟩
         have Jq:=Below.next0 (Xo0 HR) F7;obtain ⟨a8,c8,w8,I2,Ve,B4⟩:=Qcv 77 W1 (w7.alloc (.cells #[sv (Q1a false m.exp m.ws)] 9)) (Jq.alloc Jq.size _) (some ⟨w7.heap.size,0,none⟩) 1 1 [Q1a false m.exp m.ws] ((Row.lit w7 (Ug _) 9 1 #[sv (Q1a false m.exp m.ws)] 1 (by decide) rfl).lower Jq.size) W1.heap.size a3 n3 c3 (Q2w 0 m.es) (((Xo1 HR).call F7).alloc _) (by omega);have Q6:1+n3<=1000:=(by omega);generalize 1+n3=N8 at I2 Ve Q6;have Xw:=Qcw Ve Q6 (Xe5 HA);have H8:=Xh2 Xw B4;clear F7 Jq Ve B4 Xw)
       |(at_builtin;refine Q07 rfl (.tmp 54) (.tmp 55) 77 77 rfl _ _ rfl rfl _ _ I2 ?_)
       |(go_at_call_of 70 (Value.slice a8 N8 c8);refine (Xo0 H8).mono ?_;rintro r w9 ⟨rfl,Z4⟩;have H9:=Ua Z4;clear Z4))
      go_ret;refine ⟨?_,Below.next0 (Xo6 H) (Below.next0 (Xe1 H8) H9.out)⟩;rw[Q25,Q3y,Us (by exact .inr fun h=>(Xe3 HR) ((Xo2 HA).symm.trans h)),(Xo3 HA)];rfl
end Go.Proofs.YtdilmfakkppgpaaGreatDoor
namespace Go.Proofs.YtdilmfakkppgpaaGreatDoor
open Go.RowKit
theorem Qrv (B b:Nat) (l:LU) (w:World) (h:Lib.IsBuilder 66 5 B b (Lib.byteCells l) w):
 Calls Tryz.prog 66 #[.pointer (some ⟨b,0,none⟩)] w fun e w'=>e=.returned (.tuple #[])/\Q3i B b (.pointer (some ⟨b,0,none⟩)) l w'/\Below B w w'/\w'.heap.size=w.heap.size/\∀k,k≠b->w'.heap[k]?=w.heap[k]?:=by
 rcases h with h|h
 ·refine (Qef b w h.cell0 h.shape h.frozen0).mono ?_;rintro e w' ⟨rfl,rfl⟩;exact ⟨rfl,h.used _,(Uf B w).setCell (p:=⟨b,0,none⟩) h.1 _,by simp,fun k hk=>TE _ _ _ _ hk⟩
 ·refine (Qi8 b w h.cell0).mono ?_;rintro e w' ⟨rfl,rfl⟩;exact ⟨rfl,h,Uf B _,rfl,fun _ _=>rfl⟩
theorem Q2i (B b:Nat) (l t:LU) (w:World) (h:Lib.IsBuilder 66 5 B b (Lib.byteCells l) w) (R0:l.length+t.length<=140737488355328) (hBw:B<=w.heap.size):
 Calls Tryz.prog 31 #[.pointer (some ⟨b,0,none⟩),sv t] w fun e w'=>e=.returned (.tuple #[.int .i64 (t.length:Int),.nilIface])/\Q3i B b (.pointer (some ⟨b,0,none⟩)) (l++t) w'/\Below B w w'/\∀k cur T fr,w.heap[k]?=some (.cells cur T fr)->T≠5->k≠b->w'.heap[k]?=w.heap[k]?:=by
 obtain ⟨i0,hi,P1,K1,J1⟩:=Xby Qp2;have HI:=Ua h;clear h
 go_enter Tryz.func31,Tryz.ntmps31
 go_wp2_with (refine (Qrv B b l _ HI.out).mono ?_)
 rintro e w1 ⟨rfl,h1,C0,Z1,hkp⟩;obtain ⟨hB,v,I7,G5,C1⟩:=h1;have hsz1:B<=w1.heap.size:=by omega
 have HSZ:=Xh2 Z1 hkp;clear Z1 hkp;have c0:w1.cell? ⟨b,0,none⟩=some (.pointer (some ⟨b,0,none⟩)):=by rw[Lib.cell_of_heap I7];rfl
 have c1:w1.cell? ⟨b,1,none⟩=some v:=by rw[Lib.cell_of_heap I7];rfl
 have B0:b<w1.heap.size:=(Uv.1 I7).1;have HBK:=Ua I7;have O3:(Lib.byteCells l).length+(⟨t.toArray⟩:ByteArray).size<=140737488355328:=by rw[Lib.byteCells_length];exact R0
 have E4:(Lib.byteCells l).length+(⟨t.toArray⟩:ByteArray).size<=maxLen:=by unfold maxLen;omega
 clear I7
 go_wp2_with (at_builtin;refine Lib.wpList_append_own_string _ rfl _ _ 33 9 rfl B 5 i0 Tryz.underlying33 Tryz.underlying9 hi P1 K1 J1 _ _ _ rfl G5 ⟨t.toArray⟩ rfl E4 O3 hsz1 ?_)
 intro v' w2 N7 D4 _;have D0:w2.heap[b]?=some (.cells #[.pointer (some ⟨b,0,none⟩),v] 66 (0,0)):=by
  rw[D4.block b B0 (fun e=>C1 e.symm)];exact HBK.out
 have d0:w2.cell? ⟨b,0,none⟩=some (.pointer (some ⟨b,0,none⟩)):=by rw[Lib.cell_of_heap D0];rfl
 have d1:w2.cell? ⟨b,1,none⟩=some v:=by rw[Lib.cell_of_heap D0];rfl
 have f1:w2.frozen? ⟨b,1,none⟩=false:=Lib.frozen_of_heap D0 1;obtain ⟨ao,n',cap,rfl⟩:∃ao n' cap,v'=.slice ao n' cap:=by
  rcases N7.2 with ⟨hv,_⟩|⟨g,cap,cur,hv,_⟩
  ·exact ⟨_,_,_,hv⟩
  ·exact ⟨_,_,_,hv⟩
 have HE:=Xh4 D0 N7 D4 C0;clear D0 N7 D4 C0 O3 E4
 go_wp2_with fail
 go_ret2
 obtain ⟨D0,N7,D4,C0⟩:=HE.out;refine ⟨rfl,?_,?_,fun k cur T fr hk hT hkb=>?_⟩
 ·refine Lib.BuilderAt.put (T:=66) (e:=5) hB D0 (bs':=Lib.byteCells (l++t)) ?_ (by decide);rw[Q9l];have e1:Lib.strCells ⟨t.toArray⟩=Lib.byteCells t:=rfl;rw[<-e1,Uj,Lib.strCells_length];exact N7
 ·exact (C0.grown D4 (by omega) (fun k hk=>(G5.lt k hk).1)).setCell (p:=⟨b,1,none⟩) hB _
 ·have Z3:w1.heap[k]?=w.heap[k]?:=(Xe1 HSZ) k hkb;have hklt:k<w1.heap.size:=(Uv.1 (Z3.trans hk)).1;rw[TE _ _ _ _ hkb,D4.block k hklt (fun e=>?_),Z3];rcases G5.2 with ⟨hv,_⟩|⟨g,cap,cur2,hv,_,hh,_⟩
  ·rw[hv] at e;simp[Value.ownBlock] at e
  ·rw[hv] at e;simp only[Value.ownBlock,Un] at e;subst e;rw[Z3,hk] at hh;injection hh with hh;injection hh with _ hh _;exact hT hh
end Go.Proofs.YtdilmfakkppgpaaGreatDoor
