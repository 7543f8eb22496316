/- Part 4. No condition. -/
import Derived.Test.YtidojbkhlenahaaGreatDoorPkProblemDrawn03
set_option maxRecDepth 100000
set_option maxHeartbeats 16000000
namespace Go.Proofs.YtidojbkhlenahaaGreatDoor
open Go.RowKit WordsM
theorem Qoq (l:LN):NatM.val l=val (2^32) l:=by
 induction l with
 |nil=>rfl
 |cons x r ih=>simp only[NatM.val,val,ih]
theorem Qb1 (l:LN):NatM.trimL l=trimL l:=by
 induction h:l.length generalizing l with
 |zero=>obtain rfl:=UC.1 h;rfl
 |succ n ih=>
  rcases List.eq_nil_or_concat l with rfl|⟨r,x,rfl⟩
  ·simp at h
  ·rw[List.concat_eq_append] at h⊢
   by_cases h0:x=0
   ·subst h0;rw[NatM.trim_snoc_zero,Q3t];exact ih r (by simpa using h)
   ·rw[NatM.trim_snoc x h0,Q4v r h0]
structure Q0v (w:World) (a:OA) (n c:Nat) (v:Nat):Prop where
 len:(dig (2^32) v).length=n
 cap:n<=c
 most:c<=9223372036854775807
 rd:RdI .u32 w w.heap.size a (dig (2^32) v)
theorem Q0v.step {w w':World} {a:OA} {n c v:Nat} (h:Q0v w a n c v) (hb:Bw w w'):Q0v w' a n c v:=⟨h.len,h.cap,h.most,h.rd.step hb⟩
theorem Q53 (a:OA) (n c:Nat) (ls:LN) (w:World) (hn:ls.length=n) (hc:n<=c) (m5:c<=9223372036854775807) (h:RdI .u32 w w.heap.size a ls) (hl:Low (2^32) ls):
 Calls Tryz.prog 114 #[.slice a n c] w fun e w'=>∃n',e=.returned (.slice a n' n')/\n'<=n/\Q0v w' a n' n' (val (2^32) ls)/\w=w':=by
 refine (Q8e a n c ls w hn hc m5 h).mono ?_;rintro e w' ⟨rfl,rfl⟩;have h1:NatM.trimL ls=dig (2^32) (val (2^32) ls):=by rw[Qb1,Q1r (by decide) hl]
 have h2:=trim_len ls;rw[<-Qb1,h1,hn] at h2;rw[h1];refine ⟨_,rfl,h2,⟨rfl,Ue _,by omega,?_⟩,rfl⟩;rw[<-h1,Qb1,<-Q3e ls];exact h.front _
theorem Qb2 {B:Nat} (hB:0<B) {l:LN} (h:Low B l) (i:Nat):l[i]?.getD 0<B:=by
 cases hx:l[i]? with
 |none=>exact hB
 |some x=>exact h x (Ug hx)
theorem Q5e {B:Nat} (l:LN) (i:Nat):val B (l.take (i+1))=val B (l.take i)+B^i*l[i]?.getD 0:=by
 cases hx:l[i]? with
 |none=>
  have h:l.length<=i:=List.getElem?_eq_none_iff.1 hx;rw[Uw (by omega),Uw h];simp
 |some x=>exact Q1i l i x hx
theorem Q7a (a:OA) (n c:Nat) (ls:LN) (i:Nat) (w:World) {B:Nat} (hn:ls.length=n) (h:RdI .u32 w B a ls) (hl:Low (2^32) ls):
 Calls Tryz.prog 193 #[.slice a n c,.int .i64 (i:Int)] w fun e w'=>e=.returned (.int .u64 ((ls[i]?.getD 0:Nat):Int))/\w=w':=by
 by_cases F0:i<n
 ·obtain ⟨x,hx⟩:∃x,ls[i]?=some x:=⟨_,Ub (by omega)⟩;have B4:x<4294967296:=hl x (Ug hx);have G0:(i:Int)<(n:Int):=by omega
  obtain ⟨b,o,rfl,K4,J0⟩:=h.at_ hx;rw[hx,Xa0];clear hx h hl
  go_enter Tryz.func193,Tryz.ntmps193
  go_wp2_with fail
  go_ret;exact ⟨rfl,rfl⟩
 ·have G0:¬(i:Int)<(n:Int):=by omega
  rw[Ta (by omega),Option.getD_none];clear h hl
  go_enter Tryz.func193,Tryz.ntmps193
  go_wp2_with fail
  go_ret;exact ⟨rfl,rfl⟩
theorem Qse {B:Nat} {A K L:LN} {i cr s:Nat} (hL:L.length=i) (hs:A[i]?.getD 0+K[i]?.getD 0+cr=s) (h:val B L+cr*B^i=val B (A.take i)+val B (K.take i)):
 val B (L++[s%B])+s / B*B^(i+1)=val B (A.take (i+1))+val B (K.take (i+1)):=by
 have h2:(s%B+B*(s / B))*B^i=s*B^i:=by rw[Nat.mod_add_div]
 rw[Tj] at h2;rw[Q8w,hL,Q5e,Q5e,UB (B^i) (s%B),UB (B^i),UB (B^i),Tb,UB (B^i) B,<-UJ,UB (s / B) B];have h3:(A[i]?.getD 0+K[i]?.getD 0+cr)*B^i=s*B^i:=by rw[hs]
 rw[Tj,Tj] at h3;omega
theorem Qa1 (K:IntKind) (x:Int):∀u∈[Value.int K x],u.oneCell'=true:=by
 intro u hu;rw[Uy] at hu;subst hu;rfl
theorem Qeu {B:Nat} {l:LN} (h:Low B l) {x:Nat} (hx:x<B):Low B (l++[x]):=fun y hy=>by
 rcases Tl.1 hy with h1|h1
 ·exact h y h1
 ·rw[Uy] at h1;subst h1;exact hx
theorem Row.rdI {k:IntKind} {w:World} {B:Nat} {e:TypeId} {a:OA} {n c:Nat} {ms:LN} (h:Row w B e 1 a n c (ms.map (nv k))):RdI k w w.heap.size a ms:=(Row.rdN (k:=k) (ms:=ms) h).rdI
theorem Qma (a:OA) (n c:Nat) (v:Nat) (b:OA) (m d:Nat) (u:Nat) (w:World) (h1:Q0v w a n c v) (h2:Q0v w b m d u) (hn:n<=100000) (hm:m<=100000):
 Calls Tryz.prog 138 #[.slice a n c,.slice b m d] w fun e w'=>∃a' n',e=.returned (.slice a' n' n')/\Q0v w' a' n' n' (v+u)/\Bw w w':=by
 have JW:val (2^32) (dig (2^32) v)=v:=Q10 (by decide) v;have JU:val (2^32) (dig (2^32) u)=u:=Q10 (by decide) u;have Za:=Q29 (B:=2^32) (by decide) v;have Jw:=Q29 (B:=2^32) (by decide) u;have o6:=h1.len;have ZX:=h2.len;have P3:=h1.rd;have P1:=h2.rd;obtain ⟨A,hA⟩:∃A,dig (2^32) v=A:=⟨_,rfl⟩;obtain ⟨K,hK⟩:∃K,dig (2^32) u=K:=⟨_,rfl⟩;rw[hA] at JW Za o6 P3;rw[hK] at JU Jw ZX P1;obtain ⟨i0,S2,E2,O1,Y1⟩:=Xbn Q6g;have HI:=Xh4 S2 E2 O1 Y1;have H:=Xh6 JW JU Za Jw P3 P1;have hdg1:=fun (i:Nat) W (hb:Bw w W)=>Q7a a n c A i W o6 (P3.below hb) Za;have VM:=fun (i:Nat) W (hb:Bw w W)=>Q7a b m d K i W ZX (P1.below hb) Jw;have HD:=Xh2 hdg1 VM;clear JW JU Za Jw P3 P1 hA hK h1 h2 hdg1 VM S2 E2 O1 Y1;obtain ⟨M,hM,hMn,hMm,hM3⟩:∃M,M=max n m/\n<=M/\m<=M/\M<=100000:=⟨max n m,rfl,by omega,by omega,by omega⟩
 go_enter Tryz.func138,Tryz.ntmps138
 go_wp2_with fail
 go_loopw [5,6,7] (fun ov cv iv wr=>∃(i cr:Nat) (L:LN) (ao:OA) (co:Nat),ov=.slice ao i co/\cv=.int .u64 (cr:Int)/\iv=.int .i64 (i:Int)/\cr<=1/\(i<=M∨i=M+1/\cr=0)/\Row wr w.heap.size 150 1 ao i co (L.map (nv .u32))/\L.length=i/\Low (2^32) L/\val (2^32) L+cr*(2^32)^i=val (2^32) (A.take i)+val (2^32) (K.take i)/\Bw w wr) (fun _ _ iv _=>M+2-(intOf iv).toNat)
 case atStart=>exact ⟨0,0,[],none,0,rfl,rfl,rfl,by decide,.inl (Uv _),Row.nil_ _ _ _ _,rfl,fun x hx=>by simp at hx,by simp[val],Ud _ _⟩
 case round=>
  obtain ⟨i,cr,L,ao,co,rfl,rfl,rfl,Ql,hiM,K0,F5,X0,N0,hb⟩:=hrel
  by_cases Q3:n<=i/\m<=i/\cr=0
  ·obtain ⟨e1,e2,rfl⟩:=Q3;rw[Uw (by omega),Uw (by omega),(Xo0 H),(Xo1 H),TQ,TD] at N0;have hT:=Q53 ao i co L wr F5 K0.cap.1 K0.cap.2 (Row.rdI K0) X0;rw[N0] at hT;have HT:=Xh2 hT hb;have l1:¬(i:Int)<(n:Int):=(by omega);have l2:¬(i:Int)<(m:Int):=(by omega);clear hT hb N0 X0 K0 hiM
   go_wp2_with (refine (Xo0 HT).mono ?_;rintro e w1 ⟨n',rfl,ZT,hD,rfl⟩;have Zb:=Ua hD;clear hD)
   go_ret;exact ⟨ao,n',rfl,Zb.out,(Xe1 HT)⟩
  ·have hiM':i<=M:=(by omega);have J1:=(Xo0 HD) i wr hb;have I1:=(Xe1 HD) i wr hb;have B4:A[i]?.getD 0<4294967296:=Qb2 (by decide) (Xo2 H) i;have Qk:K[i]?.getD 0<4294967296:=Qb2 (by decide) (Xo3 H) i;have R0:=Qse (B:=2^32) (s:=A[i]?.getD 0+K[i]?.getD 0+cr) F5 rfl N0;have I2:i=M->A[i]?.getD 0=0/\K[i]?.getD 0=0:=fun e=>⟨by rw[Ta (by omega)];rfl,by rw[Ta (by omega)];rfl⟩;generalize A[i]?.getD 0=x at*;generalize K[i]?.getD 0=y at*;obtain ⟨s,hs⟩:∃s,x+y+cr=s:=⟨_,rfl⟩;have hsI:(cr:Int)+((x:Int)+(y:Int))=(s:Int):=(by omega);have QX:s<18446744073709551616:=(by omega);have B6:=Qon s QX;rw[hs] at R0;obtain ⟨lo,E5⟩:∃lo,s%4294967296=lo:=⟨_,rfl⟩;obtain ⟨hi,Qc⟩:∃hi,s / 4294967296=hi:=⟨_,rfl⟩;rw[show s%2^32=lo from E5,show s / 2^32=hi from Qc] at R0;have hhiI:(s:Int) / 4294967296=(hi:Int):=(by omega);have Qj:lo<4294967296:=(by omega);have I7:hi<=1:=(by omega);have hiM2:i+1<=M∨i+1=M+1/\hi=0:=by
    rcases Nat.lt_or_ge i M with h|h
    ·exact .inl h
    ·have:=I2 (by omega);exact .inr (by omega)
   rw[E5] at B6;have Vr:=hb.size;have Q1:∀o,Bw w (wr.alloc o):=fun o=>hb.alloc hb.size o;have X3:∀o,w.heap.size<=(wr.alloc o).heap.size:=fun o=>(Q1 o).size;have Qw:∀o,Row (wr.alloc o) w.heap.size 150 1 ao i co (L.map (nv .u32)):=fun o=>K0.alloc o;have HH:=Xh6 R0 Qw Q1 X3 X0 hiM2;have key:(i:Int)<(n:Int)∨(¬(i:Int)<(n:Int)/\(i:Int)<(m:Int))∨(¬(i:Int)<(n:Int)/\¬(i:Int)<(m:Int)/\(0:Int)<(cr:Int)):=(by omega);clear R0 Qw Q1 X3 X0 hiM2 hb K0 I2 N0 hs E5 Qc hiM Q3 B4 Qk;rcases key with l1|⟨l1,l2⟩|⟨l1,l2,l3⟩
   all_goals
    go_wp2_with (first
     |(go_at_call_of 193 a;refine J1.mono ?_;rintro e w1 ⟨rfl,rfl⟩)
     |(go_at_call_of 193 b;refine I1.mono ?_;rintro e w1 ⟨rfl,rfl⟩)
     |(at_builtin;refine Q0q rfl (.tmp 33) (.tmp 37) 85 rfl w _ 150 i0 _ 1 4 Tryz.underlying85 (Xo0 HI) (Xo1 HI) (Xo2 HI) (Xe3 HI) rfl (by decide) w.heap.size ((Xo2 HH) _) ((Xo3 HH) _) ao i co _ rfl ((Xo1 HH) _) ⟨wr.heap.size,0,none⟩ 1 1 [.int .u32 (lo:Int)] rfl rfl (Q3c wr #[.int .u32 (lo:Int)] _ _) (Qa1 _ _) (i+1) rfl (by omega) (by omega) ?_;intro a3 c3 w3 Y7 Z8 M0 R5;have HO:=Xh2 Y7 M0;clear Y7 Z8 M0 R5))
    refine ⟨⟨i+1,hi,L++[lo],a3,c3,rfl,rfl,by simp,I7,(Xe5 HH),?_,by simp[F5],Qeu (Xo4 HH) Qj,(Xo0 HH),(Xe1 HO)⟩,by simp only[intOf];omega⟩;rw[Tq];exact (Xo0 HO)
theorem Qg7 {B:Nat} {A K:LN} {i x S:Nat} (hx:A[i]?=some x) (h:S=val B (A.take i)*val B K+x*B^i*val B K):S=val B (A.take (i+1))*val B K:=by
 rw[Q1i A i x hx,h,Tj,UB x]
theorem Qg8 {B V:Nat} {K:LN} {i j x y:Nat} (hy:K[j]?=some y):V+x*B^i*val B (K.take j)+x*y*B^(i+j)=V+x*B^i*val B (K.take (j+1)):=by
 rw[Q1i K j y hy,Tt,To,Nat.add_assoc]
 congr 2
 rw[UJ x (B^i),<-UJ (B^i) (B^j) y,UB (B^i*B^j) y];simp only[UJ]
theorem Qor {T:TypeId} {K:IntKind} {w:World} {g:Nat} {ls:LN} (h:Arr T K w g ls) (k:Nat):Arr T K (w.drewN k) g ls:=h
theorem Q19 {B:Nat} {a w:World} (h:Below B a w) (k:Nat):Below B a (w.drewN k):=⟨h.os,h.tape,h.output,h.size,h.block⟩
theorem Qmb (a:OA) (n c:Nat) (v:Nat) (b:OA) (m d:Nat) (u:Nat) (w:World) (h1:Q0v w a n c v) (h2:Q0v w b m d u) (hn:n<=100000) (hm:m<=100000):
 Calls Tryz.prog 139 #[.slice a n c,.slice b m d] w fun e w'=>∃a' n',e=.returned (.slice a' n' n')/\Q0v w' a' n' n' (v*u)/\Bw w w':=by
 have JW:val (2^32) (dig (2^32) v)=v:=Q10 (by decide) v;have JU:val (2^32) (dig (2^32) u)=u:=Q10 (by decide) u;have Za:=Q29 (B:=2^32) (by decide) v;have Jw:=Q29 (B:=2^32) (by decide) u;have o6:=h1.len;have ZX:=h2.len;have P3:=h1.rd;have P1:=h2.rd;obtain ⟨A,hA⟩:∃A,dig (2^32) v=A:=⟨_,rfl⟩;obtain ⟨K,hK⟩:∃K,dig (2^32) u=K:=⟨_,rfl⟩;rw[hA] at JW Za o6 P3;rw[hK] at JU Jw ZX P1;subst o6;subst ZX;have H:=Xh4 JW JU Za Jw;have HR:=Xh2 P3 P1;clear JW JU Za Jw P3 P1 hA hK h1 h2;have j4:=Xa2 (P:=Tryz.prog) 85 150 (.int .u32 0) 4 Tryz.underlying85 Q6g rfl .i64 .i64 (A.length+K.length) (by omega) (by omega);rw[show ((A.length+K.length:Nat):Int)=(A.length:Int)+(K.length:Int) by omega,Q2n] at j4
 go_enter Tryz.func139,Tryz.ntmps139
 go_wp2_with fail
 have M2:Bw w (w.alloc (.cells (Array.replicate (A.length+K.length) (nv .u32 0)) 150)):=Ba;have C9:=Arr.zeros w 150 .u32 (A.length+K.length);have H0:=Xh2 M2 C9;clear M2 C9 j4
 go_loopw [6] (fun iv wr=>∃(i:Nat) (L:LN),iv=.int .i64 (i:Int)/\i<=A.length/\Arr 150 .u32 wr w.heap.size L/\L.length=A.length+K.length/\Low (2^32) L/\val (2^32) L=val (2^32) (A.take i)*val (2^32) K/\(∀t,i+K.length<=t->t<A.length+K.length->L[t]?=some 0)/\Bw w wr) (fun iv _=>A.length-(intOf iv).toNat)
 case atStart=>
  refine ⟨0,List.replicate (A.length+K.length) 0,rfl,Uv _,(Xe1 H0),by simp,fun x hx=>?_,by rw[Q77];simp[val],fun t _ ht=>?_,(Xo0 H0)⟩
  ·rw[Xae hx];decide
  ·rw[TM];simp[ht]
 case round=>
  obtain ⟨i,L,rfl,hi,hL,F5,X0,N0,M4,Y0⟩:=hrel
  by_cases F0:i<A.length
  ·have G0:(i:Int)<(A.length:Int):=(by omega);obtain ⟨x,hx⟩:∃x,A[i]?=some x:=⟨_,Ub F0⟩;obtain ⟨ba,oa,j5,Q1,Y4⟩:=((Xo0 HR).below Y0).at_ hx;have B4:x<4294967296:=(Xo2 H) x (Ug hx);subst j5;have HH:=Xh6 hL X0 N0 Y0 hx M4;clear hL X0 N0 Y0 M4 hx Y4
   go_wp2_with fail
   go_loopw [7,8] (fun cv jv wr=>∃(j cr:Nat) (L:LN),cv=.int .u64 (cr:Int)/\jv=.int .i64 (j:Int)/\j<=K.length/\cr<4294967296/\Arr 150 .u32 wr w.heap.size L/\L.length=A.length+K.length/\Low (2^32) L/\val (2^32) L+cr*(2^32)^(i+j)=val (2^32) (A.take i)*val (2^32) K+x*(2^32)^i*val (2^32) (K.take j)/\(∀t,i+K.length<=t->t<A.length+K.length->L[t]?=some 0)/\Bw w wr) (fun _ jv _=>K.length-(intOf jv).toNat)
   case atStart=>exact ⟨0,0,L,rfl,rfl,Uv _,by decide,(Xo0 HH),F5,(Xo1 HH),by rw[(Xo2 HH)];simp[val],(Xe5 HH),(Xo3 HH)⟩
   case round=>
    have HX:=Ua (Xo4 HH);clear F5 HH;obtain ⟨j,cr,L,rfl,rfl,hj,Ql,hL,F5,X0,N0,M4,Y0⟩:=hrel
    by_cases hlj:j<K.length
    ·have hlj':(j:Int)<(K.length:Int):=(by omega);obtain ⟨y,hy⟩:∃y,K[j]?=some y:=⟨_,Ub hlj⟩;obtain ⟨z,hz⟩:∃z,L[i+j]?=some z:=⟨_,Ub (by omega)⟩;obtain ⟨bb,ob,X7,C3,QV⟩:=((Xe1 HR).below Y0).at_ hy;obtain ⟨ba',oa',hae',hba',Y4⟩:=((Xo0 HR).below Y0).at_ HX.out;injection hae' with hae';injection hae' with e1 e2;subst e1 e2;have Qk:y<4294967296:=(Xe3 H) y (Ug hy);have j8:z<4294967296:=X0 z (Ug hz);subst X7;have V5:=(Qkt (B:=4294967296) (by decide) B4 Qk j8 Ql).2.2;have R0:=Qb0 (B:=2^32) (b:=x*y) (c:=cr) hz N0;rw[Qg8 hy] at R0;have hp:x*y<=4294967295*4294967295:=Nat.mul_le_mul (by omega) (by omega);obtain ⟨p,hpp⟩:∃p,x*y=p:=⟨_,rfl⟩;have hpI:(x:Int)*(y:Int)=(p:Int):=(by rw[<-hpp];norm_cast);rw[hpp] at hp R0 V5;obtain ⟨s,hs⟩:∃s,z+p+cr=s:=⟨_,rfl⟩;have hsI:(cr:Int)+((p:Int)+(z:Int))=(s:Int):=(by omega);have QX:s<18446744073709551616:=(by omega);have x7:(p:Int)+(z:Int)<18446744073709551616:=(by omega);have hpl2:(p:Int)<18446744073709551616:=(by omega);rw[hs] at R0 V5;have B6:=Qon s QX;obtain ⟨lo,E5⟩:∃lo,s%4294967296=lo:=⟨_,rfl⟩;obtain ⟨QE,Qc⟩:∃hi,s / 4294967296=hi:=⟨_,rfl⟩;rw[show s%2^32=lo from E5,show s / 2^32=QE from Qc] at R0;rw[E5] at B6;rw[Qc] at V5;have hhiI:(s:Int) / 4294967296=(QE:Int):=(by omega);have Qj:lo<4294967296:=(by omega);have YV:wr.cell? ⟨w.heap.size,i+j,none⟩=some (.int .u32 (z:Int)):=hL.cell hz;have YA:wr.frozen? ⟨w.heap.size,i+j,none⟩=false:=hL.frozen _;have Vv:(i:Int)+(j:Int)<(A.length:Int)+(K.length:Int):=(by omega);have HH:=Xh5 R0 hL X0 Y0 M4;clear R0 hL X0 N0 Y0 M4 hs E5 Qc hpp hy hz
     go_wp2_with fail
     go_quiet (fail)
     go_wp2_with fail
     refine ⟨⟨j+1,QE,L.set (i+j) lo,by simp,by simp,by omega,V5,(Qor (Xo1 HH) nq).set (i+j) lo,by simp[F5],Q43 (Xo2 HH) Qj,(Xo0 HH),fun t I3 X2=>?_,(Q19 (Xo3 HH) nq).setCell (p:=⟨w.heap.size,i+j,none⟩) (Ue _) _⟩,by simp only[intOf];omega⟩;rw[Te (by omega)];exact (Xe4 HH) t I3 X2
    ·obtain rfl:j=K.length:=(by omega);have hlj':¬((K.length:Int)<(K.length:Int)):=(by omega);have E2:=M4 (i+K.length) (Ue _) (by omega);have YV:wr.cell? ⟨w.heap.size,i+K.length,none⟩=some (.int .u32 0):=hL.cell E2;have YA:wr.frozen? ⟨w.heap.size,i+K.length,none⟩=false:=hL.frozen _;have Vv:(i:Int)+(K.length:Int)<(A.length:Int)+(K.length:Int):=(by omega);have A3:=Q9z (B:=2^32) L (i+K.length) cr 0 E2;rw[TQ,TD,N0,Tw] at A3;have hvo:=Qg7 HX.out A3;have HH:=Xh5 hvo hL X0 Y0 M4;clear A3 hvo N0 hL X0 Y0 M4 E2
     go_wp2_with fail
     refine ⟨⟨i+1,L.set (i+K.length) cr,by simp,by omega,(Xo1 HH).set _ cr,by simp[F5],Q43 (Xo2 HH) Ql,(Xo0 HH),fun t I3 X2=>?_,(Xo3 HH).setCell (p:=⟨w.heap.size,i+K.length,none⟩) (Ue _) _⟩,by simp only[intOf];omega⟩;rw[Te (by omega)];exact (Xe4 HH) t (by omega) X2
  ·obtain rfl:i=A.length:=(by omega);have G0:¬((A.length:Int)<(A.length:Int)):=(by omega);rw[Tw,(Xo0 H),(Xo1 H)] at N0;have hT:=Q53 (some ⟨w.heap.size,0,none⟩) (A.length+K.length) (A.length+K.length) L wr F5 (Ue _) (by omega) hL.rd X0;rw[N0] at hT;have HE:=Xh2 hT Y0;clear hT Y0 N0 hL X0 M4
   go_wp2_with (refine (Xo0 HE).mono ?_;rintro e w1 ⟨n',rfl,ZT,hD,rfl⟩;have Zb:=Ua hD;clear hD)
   go_ret;exact ⟨_,n',rfl,Zb.out,(Xe1 HE)⟩
theorem Qv9 {ls:LN} {i x k m:Nat} (h0:val (2^32) (ls.take i)=0) (hx:ls[i]?=some x) (he:x=2^k*(2*m+1)) (hk:k<32):Qkv (val (2^32) ls) (32*i+k):=by
 have hi:i<ls.length:=(Uh.1 hx).1;have WR:ls[i]=x:=(Uh.1 hx).2;have h1:=Q3u (B:=2^32) ls i;rw[h0,UH,UQ hi,WR] at h1;simp only[val] at h1;obtain ⟨V,hV⟩:∃V,val (2^32) (ls.drop (i+1))=V:=⟨_,rfl⟩;rw[hV] at h1;obtain ⟨t,ht⟩:∃t,32=k+(t+1):=⟨31-k,by omega⟩;have e1:x+2^32*V=2^k*(2*(m+2^t*V)+1):=by
  rw[he,show (2:Nat)^32=2^k*(2^t*2) by rw[<-Tb,<-To,<-ht],UJ,<-Tt]
  congr 1
  rw[UB (2^t) 2,UJ,Tt];omega
 rw[e1,<-TW,<-UJ,<-To] at h1;rw[h1];have hp:0<2^(32*i+k):=Tn (by decide);exact ⟨Nat.mul_mod_right _ _,by rw[Nat.mul_div_cancel_left _ hp];omega⟩
theorem Qsf (q:Nat) (h:q<4294967296):bits BinOp.and IntKind.u32 (q:Int) 1=((q%2:Nat):Int):=
 bits_mask .u32 32 (by decide) (fun n h0 h1=>by rw[IntKind.wrap_u32];omega) 1 (by decide) (q:Int) (by omega) (by omega)
theorem Q7b (a:OA) (n c:Nat) (v:Nat) (w:World) (h:Q0v w a n c v) (hn:n<=1000000) (h0:v≠0):
 Calls Tryz.prog 166 #[.slice a n c] w fun e w'=>(∃z:Nat,e=.returned (.int .i64 (z:Int))/\Qkv v z/\z<32*n)/\Bw w w':=by
 have hv:val (2^32) (dig (2^32) v)=v:=Q10 (by decide) v;have hl:=Q29 (B:=2^32) (by decide) v;have o6:=h.len;have hr:=h.rd;obtain ⟨A,hA⟩:∃A,dig (2^32) v=A:=⟨_,rfl⟩;rw[hA] at hv hl o6 hr;have H:=Xh4 hv hl hr h0;clear hv hl hr hA h h0
 go_enter Tryz.func166,Tryz.ntmps166
 go_wp2_with fail
 go_loopw [3,4] (fun nv iv wr=>∃i:Nat,nv=.int .i64 (32*(i:Int))/\iv=.int .i64 (i:Int)/\i<=n/\val (2^32) (A.take i)=0/\Bw w wr) (fun _ iv _=>n-(intOf iv).toNat)
 case atStart=>exact ⟨0,rfl,rfl,Uv _,by simp[val],Ud _ _⟩
 case round=>
  obtain ⟨i,rfl,rfl,hi,hz,hb⟩:=hrel
  by_cases F0:i<n
  ·have G0:(i:Int)<(n:Int):=(by omega);obtain ⟨x,hx⟩:∃x,A[i]?=some x:=⟨_,Ub (by omega)⟩;have B4:x<4294967296:=(Xo1 H) x (Ug hx);obtain ⟨g1,o1,j5,O5,Y4⟩:=((Xo2 H).below hb).at_ hx;subst j5;have HH:=Xh3 hz hb hx;clear hz hb hx
   by_cases Y5:x=0
   ·subst Y5
    go_wp2_with fail
    refine ⟨⟨i+1,by simp only[Xa5,true_and];omega,by simp,by omega,?_,(Xo1 HH)⟩,by simp only[intOf];omega⟩;rw[Q1i A i 0 (Xe2 HH),(Xo0 HH),Nat.mul_zero]
   ·have hx0':((x:Int)==0)=false:=by rw[Uk];omega
    go_wp2_with fail
    go_loopw [3,5] (fun nv xv wq=>∃k q:Nat,nv=.int .i64 (32*(i:Int)+(k:Int))/\xv=.int .u32 (q:Int)/\q≠0/\q<4294967296/\x=2^k*q/\k<32/\wq=wr) (fun _ xv _=>(intOf xv).toNat)
    case atStart=>exact ⟨0,x,by simp,rfl,Y5,B4,by simp,by decide,rfl⟩
    case round=>
     obtain ⟨k,q,rfl,rfl,XS,Ya,hxq,hk,rfl⟩:=hrel;have B6:=Qsf q Ya
     by_cases Vb:q%2=1
     ·rw[Vb] at B6;have Vg:=Qv9 (Xo0 HH) (Xe2 HH) (m:=q / 2) (k:=k) (by rw[hxq];congr 1;omega) hk;rw[(Xo0 H)] at Vg;have HT:=Ua Vg;clear Vg hxq Vb
      go_wp2_with fail
      go_ret;exact ⟨⟨32*i+k,by simp,HT.out,by omega⟩,(Xo1 HH)⟩
     ·have he:q%2=0:=(by omega);rw[he] at B6;obtain ⟨p,hp⟩:∃p,q=2*p:=⟨q / 2,by omega⟩;have hpI:(q:Int) / 2=(p:Int):=(by omega);have K6:k+1<32:=by
       rcases Nat.lt_or_ge (k+1) 32 with h|h
       ·exact h
       ·exfalso;obtain rfl:k=31:=(by omega);rw[hp,show (2:Nat)^31=2147483648 from rfl] at hxq;omega
      have hxp:x=2^(k+1)*p:=(by rw[hxq,hp,Tb,UJ]);have HX:=Xh2 hxp hp;clear hxp hxq Vb he hp
      go_wp2_with fail
      refine ⟨⟨k+1,p,?_,rfl,?_,?_,(Xo0 HX),K6,trivial⟩,?_⟩
      ·simp only[Xa5,true_and];omega
      ·have:=(Xe1 HX);omega
      ·have:=(Xe1 HX);omega
      ·simp only[intOf];have:=(Xe1 HX);omega
  ·exfalso;rw[Uw (by omega),(Xo0 H)] at hz;exact (Xe3 H) hz
theorem Qos {x y s:Nat} (hx:x<2^32) (hs:s<32):(x+y*2^32) / 2^s%2^32=x / 2^s+(y*2^(32-s))%2^32:=by
 have hp:(2:Nat)^32=2^s*2^(32-s):=by rw[<-To];congr 1;omega
 have h1:=Qoj (s:=s) (t:=32-s) (x:=x) (y:=y) (by rw[show s+(32-s)=32 by omega];exact hx);rw[show s+(32-s)=32 by omega] at h1;have e1:(x+y*2^32) / 2^s=x / 2^s+y*2^(32-s):=by
  rw[hp,<-UJ,UB y,UJ,Xbe _ _ (Tn (by decide))]
 rw[e1,Nat.add_mod,Xac (a:=x / 2^s) (TP (Xbq _ _) hx),Xac h1]
theorem Qmc (A:LN) (hA:Low (2^32) A) (k s:Nat) (hk:k<=A.length) (hs:s<32):val (2^32) (shr s (32-s) (A.drop k))=val (2^32) A / 2^(32*k+s):=by
 have h1:=Qiw s (32-s) (A.drop k);rw[show s+(32-s)=32 by omega] at h1;rw[h1,Qku (Tn (by decide)) A hA k hk,Nat.div_div_eq_div_mul,<-TW,<-To]
theorem Qmd {A:LN} (hA:Low (2^32) A) (k s:Nat) (hs:s<32):Low (2^32) (shr s (32-s) (A.drop k)):=by
 have h:=Qiy (s:=s) (t:=32-s) (l:=A.drop k) (by rw[show s+(32-s)=32 by omega];exact fun x hx=>hA x (Xbg hx));rwa[show s+(32-s)=32 by omega] at h
theorem Qme {A:LN} (hA:Low (2^32) A) {k s:Nat} (hk:A.length<=k):val (2^32) A / 2^(32*k+s)=0:=by
 apply Xal
 have h1:=Q3d (B:=2^32) (Tn (by decide)) A hA;rw[<-TW] at h1;exact Uc h1 (UN (by decide) (by omega))
theorem Qot (x y:Nat) (hx:x<4294967296) (hy:y<4294967296):bits BinOp.or IntKind.u64 (x:Int) ((y*4294967296:Nat):Int)=((x+y*4294967296:Nat):Int):=by
 rw[u64_or_nat _ _ (by omega) (by omega),Nat.or_comm];have:=Nat.shiftLeft_add_eq_or_of_lt (a:=y) (i:=32) (b:=x) hx;rw[Nat.shiftLeft_eq] at this;rw[show y*4294967296=y*2^32 from rfl,<-this,Xbf]
theorem Qsg {s t:Nat} {l:LN} {j x:Nat} (h:l[j]?=some x):(shr s t l).take (j+1)=(shr s t l).take j++[x / 2^s+((l[j+1]?).getD 0*2^t)%2^(s+t)]:=by
 rw[Tu,Qix s t l j x h];rfl
theorem Qj2 (a:OA) (n c:Nat) (v z:Nat) (w:World) (h:Q0v w a n c v) (hn:n<=1000000) (hz:z<=100000000):
 Calls Tryz.prog 194 #[.slice a n c,.int .i64 (z:Int)] w fun e w'=>∃a' n' c' lb,e=.returned (.tuple #[.slice a' n' c',.bool lb])/\Q0v w' a' n' c' (v / 2^z)/\Bw w w':=by
 have hv:val (2^32) (dig (2^32) v)=v:=Q10 (by decide) v;have hl:=Q29 (B:=2^32) (by decide) v;have o6:=h.len;have hr:=h.rd;obtain ⟨A,hA⟩:∃A,dig (2^32) v=A:=⟨_,rfl⟩;rw[hA] at hv hl o6 hr;subst o6;obtain ⟨k,hk⟩:∃k,z / 32=k:=⟨_,rfl⟩;obtain ⟨s,hs⟩:∃s,z%32=s:=⟨_,rfl⟩;have WJ:s<32:=by omega
 have Ks:z=32*k+s:=by omega
 have XY:(z:Int).tdiv 32=(k:Int):=by rw[Int.tdiv_eq_ediv_of_nonneg (by omega)];omega
 have hsI:(z:Int).tmod 32=(s:Int):=by rw[Int.tmod_eq_emod_of_nonneg (by omega)];omega
 have hkI2:(z:Int) / 32=(k:Int):=by omega
 have Yx:(z:Int)%32=(s:Int):=by omega
 obtain ⟨i0,S2,E2,O1,Y1⟩:=Xbn Q6g;have HI:=Xh4 S2 E2 O1 Y1;have H:=Xh4 hv hl hr Ks;clear hv hl hr hA h hk hs Ks S2 E2 O1 Y1
 by_cases WB:A.length<=k
 ·have Zw:(A.length:Int)<=(k:Int):=by omega
  have XX:=Qme (s:=s) (Xo1 H) WB;rw[(Xo0 H),<-(Xe3 H)] at XX;rw[XX];clear XX
  go_enter Tryz.func194,Tryz.ntmps194
  go_wp2_with fail
  refine ⟨rfl,.tuple #[.slice none 0 0,.bool (decide ((0:Int)<(A.length:Int)))],by simp[results,go_sem],none,0,0,_,rfl,⟨rfl,Ue _,Uv _,.inl rfl⟩,Ud _ _⟩
 ·obtain ⟨m,hm⟩:∃m,A.length=k+m:=⟨A.length-k,by omega⟩;have Zw:¬((A.length:Int)<=(k:Int)):=by omega
  have hkn2:(k:Int)<(A.length:Int):=by omega
  go_enter Tryz.func194,Tryz.ntmps194
  go_wp2_with fail
  go_loopw [6,7] (fun lv iv wr=>∃(i:Nat) (lb:Bool),lv=.bool lb/\iv=.int .i64 (i:Int)/\i<=k/\w=wr) (fun _ iv _=>k-(intOf iv).toNat)
  case atStart=>exact ⟨0,false,rfl,rfl,Uv _,rfl⟩
  case round=>
   obtain ⟨i,lb,rfl,rfl,hi,rfl⟩:=hrel
   by_cases F0:i<k
   ·have G0:(i:Int)<(k:Int):=(by omega);obtain ⟨x,hx⟩:∃x,A[i]?=some x:=⟨_,Ub (by omega)⟩;obtain ⟨g1,o1,j5,O5,Y4⟩:=(Xo2 H).at_ hx;subst j5;have hil:(i:Int)<(A.length:Int):=(by omega);cases lb
    ·go_wp2_with fail
     exact ⟨⟨i+1,_,rfl,by simp,by omega,trivial⟩,by simp only[intOf];omega⟩
    ·go_wp2_with fail
     exact ⟨⟨i+1,_,rfl,by simp,by omega,trivial⟩,by simp only[intOf];omega⟩
   ·obtain rfl:k=i:=(by omega);have G0:¬((k:Int)<(k:Int)):=(by omega);obtain ⟨x,hx⟩:∃x,A[k]?=some x:=⟨_,Ub (by omega)⟩;obtain ⟨g1,o1,j5,O5,Y4⟩:=(Xo2 H).at_ hx;subst j5;clear hx
    go_upto_region 8 with fail
    go_cut [6] (fun lv wx=>∃lb2 nq,lv=.bool lb2/\w.drewN nq=wx)
    case first=>
     cases lb
     ·go_quiet (fail)
      go_wp2_with fail
      go_meet;exact ⟨_,nq,rfl,rfl⟩
     ·go_quiet (fail)
      go_wp2_with fail
      go_meet;exact ⟨_,nq,rfl,rfl⟩
    case rest=>
     obtain ⟨lb2,nq,rfl,rfl⟩:=hcut;have Wj:=Ua (Q19 (Ud w.heap.size w) nq);clear Y4 F0 G0 hi
     go_wp2_with fail
     go_loopw [8,9] (fun ov iv wr=>∃(t:Nat) (ao:OA) (co:Nat),ov=.slice ao t co/\iv=.int .i64 ((k:Int)+(t:Int))/\t<=m/\Row wr w.heap.size 150 1 ao t co (((shr s (32-s) (A.drop k)).take t).map (nv .u32))/\Bw w wr) (fun _ iv _=>k+m-(intOf iv).toNat)
     case atStart=>exact ⟨0,none,0,rfl,by simp,Uv _,Row.nil_ _ _ _ _,Wj.out⟩
     case round=>
      obtain ⟨t,ao,co,rfl,rfl,ht,K0,hb⟩:=hrel
      by_cases F0:t<m
      ·have G0:(t:Int)<(m:Int):=(by omega);obtain ⟨y0,ZF⟩:∃y,A[k+t]?=some y:=⟨_,Ub (by omega)⟩;have B4:y0<4294967296:=(Xo1 H) y0 (Ug ZF);obtain ⟨g2,o2,j5,Q2,Y4⟩:=((Xo2 H).below hb).at_ ZF;injection j5 with j5;injection j5 with e1 e2;subst e1 e2;have Qk:A[k+t+1]?.getD 0<4294967296:=Qb2 (by decide) (Xo1 H) (k+t+1);have hd:∀W:World,W.heap=wr.heap->Calls Tryz.prog 193 #[.slice (some ⟨g1,o1,none⟩) (k+m) c,.int .i64 ((k:Int)+(t:Int)+1)] W fun e w'=>e=.returned (.int .u64 ((A[k+t+1]?.getD 0:Nat):Int))/\∃n,w'=W.drewN n:=fun W hW=>by
        have h1:=Q7a (some ⟨g1,o1,none⟩) (k+m) c A (k+t+1) W (B:=w.heap.size) (by omega) (RdI.keep ((Xo2 H).below hb) (fun p _=>by unfold World.cell?;rw[hW])) (Xo1 H);rw[show ((k+t+1:Nat):Int)=(k:Int)+(t:Int)+1 by omega] at h1;refine h1.mono ?_;rintro e w' ⟨rfl,rfl⟩;exact ⟨rfl,0,rfl⟩
       have Qg:=Qsg (s:=s) (t:=32-s) (l:=A.drop k) (j:=t) (x:=y0) (by rw[Xaz];exact ZF);rw[Xaz,show k+(t+1)=k+t+1 by omega,show s+(32-s)=32 by omega] at Qg;generalize A[k+t+1]?.getD 0=y at*;have hdp:=Qos (x:=y0) (y:=y) (s:=s) B4 WJ;rw[<-hdp] at Qg;have U8:=Qot y0 y B4 Qk;obtain ⟨q,hq⟩:∃q,y0+y*4294967296=q:=⟨_,rfl⟩;obtain ⟨yy,Vt⟩:∃yy,y*4294967296=yy:=⟨_,rfl⟩;have hyyI:(y:Int)*4294967296=(yy:Int):=(by omega);have hyyl:yy<18446744073709551616:=(by omega);have Ya:q<18446744073709551616:=(by omega);rw[Vt] at U8;rw[<-Vt,hq] at U8;rw[Vt] at U8;rw[show y0+y*2^32=q from hq] at Qg;obtain ⟨p,hp⟩:∃p,q / 2^s=p:=⟨_,rfl⟩;have hpI:(q:Int) / 2^s=(p:Int):=(by rw[<-hp];norm_cast);have x7:p<18446744073709551616:=(by rw[<-hp];exact TP (Xbq _ _) Ya);have B6:=Qon p x7;rw[hp] at Qg;obtain ⟨lo,E5⟩:∃lo,p%4294967296=lo:=⟨_,rfl⟩;have Qj:lo<4294967296:=(by omega);rw[E5] at B6;rw[show p%2^32=lo from E5] at Qg;have hkt:(k:Int)+(t:Int)<(k:Int)+(m:Int):=(by omega);have Q1:∀o nq,Bw w ((wr.drewN nq).alloc o):=fun o nq=>(Q19 hb nq).alloc hb.size o;have X3:∀o nq,w.heap.size<=((wr.drewN nq).alloc o).heap.size:=fun o nq=>(Q1 o nq).size;have Qw:∀o nq,Row ((wr.drewN nq).alloc o) w.heap.size 150 1 ao t co (((shr s (32-s) (A.drop k)).take t).map (nv .u32)):=fun o nq=>(K0.drewN nq).alloc o;have HH:=Xh4 Qg Qw Q1 X3;clear Qg Qw Q1 X3 hb K0 hq Vt hp E5 hdp ZF
       go_wp2_with fail
       go_quiet (first|(refine Calls.quiet_of (hd _ ?_);rfl))
       go_wp2_with (at_builtin;refine Q0q rfl (.tmp 66) (.tmp 73) 85 rfl w _ 150 i0 _ 1 4 Tryz.underlying85 (Xo0 HI) (Xo1 HI) (Xo2 HI) (Xe3 HI) rfl (by decide) w.heap.size ((Xo2 HH) _ _) ((Xe3 HH) _ _) ao t co _ rfl ((Xo1 HH) _ _) ⟨(wr.drewN nq).heap.size,0,none⟩ 1 1 [.int .u32 (lo:Int)] rfl rfl (Q3c (wr.drewN nq) #[.int .u32 (lo:Int)] _ _) (Qa1 _ _) (t+1) rfl (by omega) (by omega) ?_;intro a3 c3 w3 Y7 Z8 M0 R5;have HO:=Xh2 Y7 M0;clear Y7 Z8 M0 R5)
       refine ⟨⟨t+1,a3,c3,rfl,by simp only[Xa5,true_and];omega,by omega,?_,(Xe1 HO)⟩,by simp only[intOf];omega⟩;rw[(Xo0 HH),Tq];exact (Xo0 HO)
      ·obtain rfl:m=t:=(by omega);have G0:¬(k:Int)+(m:Int)<(k:Int)+(m:Int):=(by omega);have QX:(shr s (32-s) (A.drop k)).length=m:=(by rw[Qiv,Th];omega);rw[Uw (by omega)] at K0;have hT:=Q53 ao m co _ wr QX K0.cap.1 K0.cap.2 (Row.rdI K0) (Qmd (Xo1 H) k s WJ);rw[Qmc A (Xo1 H) k s (by omega) WJ,(Xo0 H),<-(Xe3 H)] at hT;have HT:=Xh2 hT hb;clear hT hb K0 QX
       go_wp2_with (refine (Xo0 HT).mono ?_;rintro e w1 ⟨n',rfl,ZT,hD,rfl⟩;have Zb:=Ua hD;clear hD)
       refine ⟨rfl,.tuple #[.slice ao n' n',.bool lb2],by simp[results,go_sem],ao,n',n',lb2,rfl,Zb.out,(Xe1 HT)⟩
def Q4e:LN->LN
 |[]=>[]
 |[x]=>[x]
 |x::y::r=>(x+y*4294967296)::Q4e r
theorem Qg9:∀l:LN,val (2^64) (Q4e l)=val (2^32) l
 |[]=>rfl
 |[x]=>by simp[Q4e,val]
 |x::y::r=>by
  have ih:=Qg9 r;simp only[Q4e,val,ih];have e:(2:Nat)^64=4294967296*4294967296:=by decide
  rw[e,Tt,show (2:Nat)^32=4294967296 from rfl,UJ];omega
theorem Qbp:∀l:LN,Low (2^32) l->Low (2^64) (Q4e l)
 |[],_=>fun x hx=>by cases hx
 |[x],h=>fun y hy=>by
  rw[Q4e,Uy] at hy;subst hy;have:y<4294967296:=h y (by simp)
  show y<18446744073709551616
  omega
 |x::y::r,h=>fun z hz=>by
  have h1:x<4294967296:=h x (by simp);have h2:y<4294967296:=h y (by simp);rcases UD.1 hz with rfl|hz
  ·show x+y*4294967296<18446744073709551616
   omega
  ·exact Qbp r (fun u hu=>h u (by simp[hu])) z hz
theorem Qdq:∀l:LN,Q5d l->Q5d (Q4e l)
 |[],_=>fun x hx=>by cases hx
 |[x],h=>h
 |[x,y],h=>fun z hz=>by
  simp[Q4e] at hz;have:=h y (by simp);omega
 |x::y::u::r,h=>fun z hz=>by
  have h2:Q5d (u::r):=fun a ha=>h a (by rw[List.getLast?_cons_cons,List.getLast?_cons_cons];exact ha);have h3:=Qdq (u::r) h2;refine h3 z ?_;rw[Q4e] at hz;cases hp:Q4e (u::r) with
  |nil=>cases r <;> simp[Q4e] at hp
  |cons p q=>rw[hp,List.getLast?_cons_cons] at hz;exact hz
theorem Qou (v:Nat):Q4e (dig (2^32) v)=dig (2^64) v:=by
 have h1:=Qit (B:=2^64) (by decide) (Q4e (dig (2^32) v)) (Qbp _ (Q29 (by decide) v)) (Qdq _ (Qks (by decide) v));rw[Qg9,Q10 (by decide)] at h1;exact h1.symm
theorem Qga:∀(l:LN) (j x:Nat),l[2*j]?=some x->(Q4e l)[j]?=some (x+(l[2*j+1]?).getD 0*4294967296)
 |[],j,x,h=>by simp at h
 |[y],0,x,h=>by simp at h;simp[Q4e,h]
 |[y],j+1,x,h=>by simp[Tt] at h
 |y::z::r,0,x,h=>by simp at h;simp[Q4e,h]
 |y::z::r,j+1,x,h=>by
  rw[Tt] at h;have:=Qga r j x (by simpa using h);simpa[Q4e,Tt] using this
theorem Qgb:∀l:LN,(Q4e l).length=(l.length+1) / 2
 |[]=>rfl
 |[x]=>by simp[Q4e]
 |x::y::r=>by
  have:=Qgb r;simp only[Q4e,Ul,this];omega
theorem Qmf {l:LN} {j x:Nat} (h:l[2*j]?=some x):(Q4e l).take (j+1)=(Q4e l).take j++[x+(l[2*j+1]?).getD 0*4294967296]:=by
 rw[Tu,Qga l j x h];rfl
theorem Qgc (a:OA) (n c:Nat) (v:Nat) (w:World) (h:Q0v w a n c v) (hn:n<=1000000):
 Calls Tryz.prog 167 #[.slice a n c] w fun e w'=>∃a' n' c',e=.returned (.slice a' n' c')/\WordsIn w' a' n' c' (dig (2^64) v)/\Bw w w':=by
 have hl:=Q29 (B:=2^32) (by decide) v;have hpd:=Qou v;have o6:=h.len;have hr:=h.rd;obtain ⟨A,hA⟩:∃A,dig (2^32) v=A:=⟨_,rfl⟩;rw[hA] at hl o6 hr hpd;rw[<-hpd];subst o6;have Jg:=Qgb A;have F7:=Qbp A hl;obtain ⟨i0,S2,E2,O1,Y1⟩:=Xbn Q4s;have HI:=Xh4 S2 E2 O1 Y1;have H:=Xh4 hl hr Jg F7;clear hl hr hA h hpd Jg F7 S2 E2 O1 Y1
 go_enter Tryz.func167,Tryz.ntmps167
 go_wp2_with fail
 go_loopw [3,4] (fun ov iv wr=>∃(j:Nat) (ao:OA) (co:Nat),ov=.slice ao j co/\iv=.int .i64 (2*(j:Int))/\2*j<=A.length+1/\Row wr w.heap.size 83 1 ao j co (((Q4e A).take j).map (nv .u64))/\Bw w wr) (fun _ iv _=>A.length+2-(intOf iv).toNat)
 case atStart=>exact ⟨0,none,0,rfl,rfl,by omega,Row.nil_ _ _ _ _,Ud _ _⟩
 case round=>
  obtain ⟨j,ao,co,rfl,rfl,hj,K0,hb⟩:=hrel
  by_cases F0:2*j<A.length
  ·have G0:2*(j:Int)<(A.length:Int):=(by omega);obtain ⟨x,hx⟩:∃x,A[2*j]?=some x:=⟨_,Ub F0⟩;have B4:x<4294967296:=(Xo0 H) x (Ug hx);obtain ⟨g1,o1,j5,O5,Y4⟩:=((Xo1 H).below hb).at_ hx;have C7:=Qmf hx;have Q1:∀o,Bw w (wr.alloc o):=fun o=>hb.alloc hb.size o;have X3:∀o,w.heap.size<=(wr.alloc o).heap.size:=fun o=>(Q1 o).size;have Qw:∀o,Row (wr.alloc o) w.heap.size 83 1 ao j co (((Q4e A).take j).map (nv .u64)):=fun o=>K0.alloc o;have HB:=Ua hb
   by_cases h2:2*j+1<A.length
   ·have Jk:2*(j:Int)+1<(A.length:Int):=(by omega);obtain ⟨y,hy⟩:∃y,A[2*j+1]?=some y:=⟨_,Ub h2⟩;have Qk:y<4294967296:=(Xo0 H) y (Ug hy);obtain ⟨g2,o2,Zs,Q2,QV⟩:=((Xo1 H).below hb).at_ hy;subst j5;injection Zs with Zs;injection Zs with e1 e2;subst e1 e2;rw[hy,Xa0] at C7;have U8:=Qot x y B4 Qk;obtain ⟨yy,Vt⟩:∃yy,y*4294967296=yy:=⟨_,rfl⟩;have hyyI:(y:Int)*4294967296=(yy:Int):=(by omega);have hyyl:yy<18446744073709551616:=(by omega);rw[Vt] at U8 C7;obtain ⟨q,hq⟩:∃q,x+yy=q:=⟨_,rfl⟩;rw[hq] at U8 C7;have Ya:q<18446744073709551616:=(by omega);have HH:=Xh4 C7 Qw Q1 X3;clear C7 Qw Q1 X3 hb K0 hx hy Vt hq
    go_wp2_with (at_builtin;refine Q0q rfl (.tmp 31) (.tmp 33) 24 rfl w _ 83 i0 _ 1 8 Tryz.underlying24 (Xo0 HI) (Xo1 HI) (Xo2 HI) (Xe3 HI) rfl (by decide) w.heap.size ((Xo2 HH) _) ((Xe3 HH) _) ao j co _ rfl ((Xo1 HH) _) ⟨wr.heap.size,0,none⟩ 1 1 [.int .u64 (q:Int)] rfl rfl (Q3c wr #[.int .u64 (q:Int)] _ _) (Qa1 _ _) (j+1) rfl (by omega) (by omega) ?_;intro a3 c3 w3 Y7 Z8 M0 R5;have HO:=Xh2 Y7 M0;clear Y7 Z8 M0 R5)
    refine ⟨⟨j+1,a3,c3,rfl,by simp only[Xa5,true_and];omega,by omega,?_,(Xe1 HO)⟩,by simp only[intOf];omega⟩;rw[(Xo0 HH),Tq];exact (Xo0 HO)
   ·have Jk:¬2*(j:Int)+1<(A.length:Int):=(by omega);subst j5;rw[Ta (by omega),Option.getD_none,TQ,TD] at C7;have HH:=Xh4 C7 Qw Q1 X3;clear C7 Qw Q1 X3 hb K0 hx
    go_wp2_with (at_builtin;refine Q0q rfl (.tmp 31) (.tmp 33) 24 rfl w _ 83 i0 _ 1 8 Tryz.underlying24 (Xo0 HI) (Xo1 HI) (Xo2 HI) (Xe3 HI) rfl (by decide) w.heap.size ((Xo2 HH) _) ((Xe3 HH) _) ao j co _ rfl ((Xo1 HH) _) ⟨wr.heap.size,0,none⟩ 1 1 [.int .u64 (x:Int)] rfl rfl (Q3c wr #[.int .u64 (x:Int)] _ _) (Qa1 _ _) (j+1) rfl (by omega) (by omega) ?_;intro a3 c3 w3 Y7 Z8 M0 R5;have HO:=Xh2 Y7 M0;clear Y7 Z8 M0 R5)
    refine ⟨⟨j+1,a3,c3,rfl,by simp only[Xa5,true_and];omega,by omega,?_,(Xe1 HO)⟩,by simp only[intOf];omega⟩;rw[(Xo0 HH),Tq];exact (Xo0 HO)
  ·have G0:¬2*(j:Int)<(A.length:Int):=(by omega);have O0:(Q4e A).length=j:=(by rw[(Xo2 H)];omega);rw[Uw (by omega)] at K0;have hW:WordsIn wr ao j co (Q4e A):=⟨O0,K0.cap.1,K0.cap.2,(Xe3 H),Row.rdI K0⟩;have HW:=Xh2 hW hb;clear hW hb K0 O0
   go_wp2_with fail
   go_ret;exact ⟨ao,j,co,rfl,(Xo0 HW),(Xe1 HW)⟩
def Qov (neg:Bool) (v:Nat) (e:Int) (neg':Bool) (v':Nat) (e':Int):Prop:=(v=0/\neg'=false/\v'=0/\e'=0)∨∃z:Nat,Qkv v z/\neg'=neg/\v'=v / 2^z/\e'=e+z
theorem Qaj {B u v:Nat} (hB:2<=B) (h:u<=v):(dig B u).length<=(dig B v).length:=by
 refine Q32 hB (TP h ?_);have h1:=Q3d (B:=B) (by omega) (dig B v) (Q29 hB v);rwa[Q10 hB] at h1
theorem Q0v.nil_ (w:World):Q0v w none 0 0 0:=⟨rfl,Ue _,by omega,.inl rfl⟩
theorem Q7t (neg:Bool) (a:OA) (n c:Nat) (v:Nat) (e:Int) (w:World) (h:Q0v w a n c v) (hn:n<=1000000) (he: -1000000000<=e) (Q5:e<=1000000000):
 Calls Tryz.prog 140 #[.bool neg,.slice a n c,.int .i64 e] w fun r w'=>∃neg' a' n' c' v' e',r=.returned (.agg #[.bool neg',.slice a' n' c',.int .i64 e'])/\Qov neg v e neg' v' e'/\Q0v w' a' n' c' v'/\n'<=n/\-1000000000<=e'/\e'<=1000000000+32*n/\Bw w w':=by
 have M2:∀o,Bw w (w.alloc o):=fun o=>Ba;have hN:=Q03.new w (.bool false) (.slice none 0 0) (.int .i64 0) 87;have O2:=Q0o w (.cells #[.bool false,.slice none 0 0,.int .i64 0] 87)
 by_cases h0:v=0
 ·have ZZ:n=0:=by have:=h.len;rw[h0,Q14] at this;exact this.symm
  subst ZZ;have HS:=Xh2 hN (M2 (.cells #[.bool false,.slice none 0 0,.int .i64 0] 87));obtain ⟨E4,J1,I1,U4,j3,U3⟩:=hN.cf;have D3:=hN.d1 (.bool false);have Z2:=hN.d2 (.bool false) (.slice none 0 0);clear hN M2 h
  go_enter Tryz.func140,Tryz.ntmps140
  go_wp2_with fail
  have k0:=(Xo0 HS).c0;have k1:=(Xo0 HS).c1;have k2:=(Xo0 HS).c2;have M0:=(Xe1 HS);clear HS D3 Z2 E4 J1 I1 U4 j3 U3;generalize w.alloc _=W3 at k0 k1 k2 M0⊢;refine ⟨rfl,.agg #[.bool false,.slice none 0 0,.int .i64 0],by simp[results,go_sem,k0,k1,k2],false,none,0,0,0,0,rfl,.inl ⟨h0,rfl,rfl,rfl⟩,Q0v.nil_ _,Ue _,by omega,by omega,M0⟩
 ·have ZZ:n≠0:=fun e=>h0 ((Q51 (B:=2^32) (by decide)).1 (UC.1 (by rw[h.len,e])));have hn0':((n:Int)==0)=false:=by rw[Uk];omega
  have hz:=fun W (hb:Bw w W)=>Q7b a n c v W (h.step hb) hn h0;have hd:=fun W (hb:Bw w W) z hz=>Qj2 a n c v z W (h.step hb) hn hz;have HZ:=Xh2 hz hd;have HN:=Xh3 hN h0 h.len;clear hz hd hN h h0
  go_enter Tryz.func140,Tryz.ntmps140
  go_wp2_with (first
   |(go_at_call_of 166 a;refine ((Xo0 HZ) _ (M2 _)).mono ?_;rintro r w1 ⟨⟨z,rfl,O1,Y1⟩,C0⟩;have I0:=Xh3 O1 C0 Y1;clear C0 O1)
   |(refine ((Xe1 HZ) _ (Below.next0 (M2 _) (Xo1 I0)) z (by omega)).mono ?_;rintro r w2 ⟨a2,n2,c2,lb,rfl,Zm,D0⟩;have G1:=((Xo0 HN).step (Xo1 I0) O2).step D0 (Uc O2 (Xo1 I0).size);
     obtain ⟨E4,J1,I1,U4,j3,U3⟩:=G1.cf;have D3:=G1.d1 (.bool neg);have Z2:=G1.d2 (.bool neg) (.slice a2 n2 c2);have E1:=Xh3 G1 Zm D0;clear G1 D0 Zm))
  have hS:=(Xo0 E1).store (.bool neg) (.slice a2 n2 c2) (.int .i64 (e+(z:Int)));obtain ⟨k0,k1,k2⟩:=hS.cc;have M0:=Q03.below (Below.next0 (Below.next0 (M2 _) (Xo1 I0)) (Xe2 E1)) (Ue _) (.bool neg) (.slice a2 n2 c2) (.int .i64 (e+(z:Int)));have hD:=(Xo1 E1);have hD3:Q0v _ a2 n2 c2 (v / 2^z):=⟨hD.len,hD.cap,hD.most,(hD.rd.store3 (Xo0 E1) (fun _=>by simp[nv]) (fun _=>by simp[nv]) (fun _=>by simp[nv]) (.bool neg) (.slice a2 n2 c2) (.int .i64 (e+(z:Int)))).more (Q1s _ _ _ _ _)⟩;clear E4 J1 I1 U4 j3 U3 D3 Z2 hS hD;have C5:n2<=n:=by
   rw[<-hD3.len,<-(Xe2 HN)];exact Qaj (by decide) (Xbq _ _)
  generalize World.setCell _ _ _=W3 at k0 k1 k2 M0 hD3⊢;refine ⟨rfl,.agg #[.bool neg,.slice a2 n2 c2,.int .i64 (e+(z:Int))],by simp[results,go_sem,k0,k1,k2],neg,a2,n2,c2,v / 2^z,e+(z:Int),rfl,.inr ⟨z,(Xo0 I0),rfl,rfl,rfl⟩,hD3,C5,by omega,by omega,M0⟩
def Fit (v:Nat) (e:Int):Prop:=(dig (2^64) v).length<=64/\-65536<=e/\e<=65536
def Qkz (neg:Bool) (v:Nat) (e:Int) (neg':Bool) (e':Int) (L:LN) (er:Int):Prop:=
 (v=0/\neg'=false/\e'=0/\L=[]/\er=0)∨(v≠0/\¬Fit v e/\neg'=false/\e'=0/\L=[]/\er=2)∨(v≠0/\Fit v e/\neg'=neg/\e'=e/\L=dig (2^64) v/\er=0)
theorem WordsIn.nil_ (w:World):WordsIn w none 0 0 []:=⟨rfl,Ue _,by omega,fun x hx=>by simp at hx,.inl rfl⟩
theorem Q7u (neg:Bool) (a:OA) (n c:Nat) (v:Nat) (e:Int) (w:World) (h:Q0v w a n c v) (hn:n<=1000000):
 Calls Tryz.prog 118 #[.agg #[.bool neg,.slice a n c,.int .i64 e]] w fun r w'=>∃neg' e' a' n' c' L er,r=.returned (.tuple #[.agg #[.bool neg',.int .i64 e',.slice a' n' c'],.int .i64 er])/\Qkz neg v e neg' e' L er/\WordsIn w' a' n' c' L/\Bw w w':=by
 obtain ⟨W0,M1⟩:∃W0,(w.alloc (.cells #[.bool neg,.slice a n c,.int .i64 e] 87)).alloc (.cells #[.bool false,.int .i64 0,.slice none 0 0] 26)=W0:=⟨_,rfl⟩;have F2:(w.alloc (.cells #[.bool neg,.slice a n c,.int .i64 e] 87)).heap.size=w.heap.size+1:=Ur _ _;have Q0:Bw w W0:=by rw[<-M1];exact Below.next0 (Ba) (Ba)
 have hV:Q03 W0 w.heap.size (.bool neg) (.slice a n c) (.int .i64 e):=by
  rw[<-M1];exact (Q03.new w _ _ _ 87).step (Ba) (Q0o _ _)
 have hN:Q03 W0 (w.heap.size+1) (.bool false) (.int .i64 0) (.slice none 0 0):=by
  rw[<-M1,<-F2];exact Q03.new _ _ _ _ _
 have O2:w.heap.size+1<W0.heap.size:=by
  have h1:=Q0o (w.alloc (.cells #[.bool neg,.slice a n c,.int .i64 e] 87)) (.cells #[.bool false,.int .i64 0,.slice none 0 0] 26);rw[M1,F2] at h1;exact h1
 by_cases h0:v=0
 ·have ZZ:n=0:=by have:=h.len;rw[h0,Q14] at this;exact this.symm
  subst ZZ;have HS:=Xh2 (hN.store (.bool false) (.int .i64 0) (.slice none 0 0)) (Q03.below Q0 (Xar _) (b:=w.heap.size+1) (.bool false) (.int .i64 0) (.slice none 0 0));have D8:=hV.c1;obtain ⟨E4,J1,I1,U4,j3,U3⟩:=hN.cf;have D3:=hN.d1 (.bool false);have Z2:=hN.d2 (.bool false) (.int .i64 0);have HW:=Ua M1;clear hN hV Q0 h M1
  go_enter Tryz.func118,Tryz.ntmps118
  go_upto_region 1 with fail
  rw[HW.out]
  go_wp2_with fail
  have k0:=(Xo0 HS).c0;have k1:=(Xo0 HS).c1;have k2:=(Xo0 HS).c2;have M0:=(Xe1 HS);clear HS E4 J1 I1 U4 j3 U3 D3 Z2;generalize World.setCell _ _ _=W3 at k0 k1 k2 M0⊢;refine ⟨rfl,.tuple #[.agg #[.bool false,.int .i64 0,.slice none 0 0],.int .i64 0],by simp[results,go_sem,k0,k1,k2],false,0,none,0,0,[],0,rfl,.inl ⟨h0,rfl,rfl,rfl,rfl⟩,WordsIn.nil_ _,M0⟩
 ·have ZZ:n≠0:=fun e=>h0 ((Q51 (B:=2^32) (by decide)).1 (UC.1 (by rw[h.len,e])));have hn0':((n:Int)==0)=false:=by rw[Uk];omega
  have hw:=Qgc a n c v W0 ⟨h.len,h.cap,h.most,(h.rd.below Q0).more Q0.size⟩ hn;have HW:=Xh2 M1 hw;have HN:=Xh5 hV hN O2 h0 Q0;have D8:=hV.c1;clear hw M1 hV hN h h0 Q0
  by_cases O0:(dig (2^64) v).length<=64
  ·have ZG:((dig (2^64) v).length:Int)<=64:=by omega
   by_cases E5:e< -65536
   ·have K3:¬Fit v e:=fun h=>by have:=h.2.1;omega
    have HF:=Ua K3;clear K3;obtain ⟨N,ZB⟩:∃N,(dig (2^64) v).length=N:=⟨_,rfl⟩;rw[ZB] at O0 ZG
    go_enter Tryz.func118,Tryz.ntmps118
    go_upto_region 1 with fail
    rw[(Xo0 HW)]
    go_wp2_with (refine (Xe1 HW).mono ?_;rintro r w1 ⟨a2,n2,c2,rfl,R1,C0⟩;have C5:N=n2:=by { rw[<-ZB];exact R1.len };subst C5;
                 have P5:=(Xo0 HN).step C0 (Nat.lt_of_succ_lt (Xo2 HN));have K2:=(Xo1 HN).step C0 (Xo2 HN);obtain ⟨E4,J1,I1,U4,j3,U3⟩:=K2.cf;have D3:=K2.d1 (.bool false);have Z2:=K2.d2 (.bool false) (.int .i64 0);obtain ⟨J8,O5,Q2⟩:=P5.cc;have I0:=Xh3 K2 (Below.next0 (Xe4 HN) C0) R1;clear K2 P5 C0 R1)
    have hS:=(Xo0 I0).store (.bool false) (.int .i64 0) (.slice none 0 0);obtain ⟨k0,k1,k2⟩:=hS.cc;have P0:=Q03.below (Xo1 I0) (Xar _) (b:=w.heap.size+1) (.bool false) (.int .i64 0) (.slice none 0 0);have O7:WordsIn _ a2 N c2 (dig (2^64) v):=⟨(Xe2 I0).len,(Xe2 I0).cap,(Xe2 I0).most,(Xe2 I0).low,((Xe2 I0).rd.store3 (Xo0 I0) (fun _=>by simp[nv]) (fun _=>by simp[nv]) (fun _=>by simp[nv]) (.bool false) (.int .i64 0) (.slice none 0 0)).more (Q1s _ _ _ _ _)⟩;clear hS E4 J1 I1 U4 j3 U3 D3 Z2 J8 O5 Q2;generalize World.setCell _ _ _=W5 at k0 k1 k2 P0 O7⊢;refine ⟨rfl,.tuple #[.agg #[.bool false,.int .i64 0,.slice none 0 0],.int .i64 2],by simp[results,go_sem,k0,k1,k2],false,0,none,0,0,[],2,rfl,.inr (.inl ⟨(Xo3 HN),HF.out,rfl,rfl,rfl,rfl⟩),WordsIn.nil_ _,P0⟩
   ·by_cases Qc:65536<e
    ·have K3:¬Fit v e:=fun h=>by have:=h.2.2;omega
     have HF:=Ua K3;clear K3;obtain ⟨N,ZB⟩:∃N,(dig (2^64) v).length=N:=⟨_,rfl⟩;rw[ZB] at O0 ZG
     go_enter Tryz.func118,Tryz.ntmps118
     go_upto_region 1 with fail
     rw[(Xo0 HW)]
     go_wp2_with (refine (Xe1 HW).mono ?_;rintro r w1 ⟨a2,n2,c2,rfl,R1,C0⟩;have C5:N=n2:=by { rw[<-ZB];exact R1.len };subst C5;
                  have P5:=(Xo0 HN).step C0 (Nat.lt_of_succ_lt (Xo2 HN));have K2:=(Xo1 HN).step C0 (Xo2 HN);obtain ⟨E4,J1,I1,U4,j3,U3⟩:=K2.cf;have D3:=K2.d1 (.bool false);have Z2:=K2.d2 (.bool false) (.int .i64 0);obtain ⟨J8,O5,Q2⟩:=P5.cc;have I0:=Xh3 K2 (Below.next0 (Xe4 HN) C0) R1;clear K2 P5 C0 R1)
     have hS:=(Xo0 I0).store (.bool false) (.int .i64 0) (.slice none 0 0);obtain ⟨k0,k1,k2⟩:=hS.cc;have P0:=Q03.below (Xo1 I0) (Xar _) (b:=w.heap.size+1) (.bool false) (.int .i64 0) (.slice none 0 0);have O7:WordsIn _ a2 N c2 (dig (2^64) v):=⟨(Xe2 I0).len,(Xe2 I0).cap,(Xe2 I0).most,(Xe2 I0).low,((Xe2 I0).rd.store3 (Xo0 I0) (fun _=>by simp[nv]) (fun _=>by simp[nv]) (fun _=>by simp[nv]) (.bool false) (.int .i64 0) (.slice none 0 0)).more (Q1s _ _ _ _ _)⟩;clear hS E4 J1 I1 U4 j3 U3 D3 Z2 J8 O5 Q2;generalize World.setCell _ _ _=W5 at k0 k1 k2 P0 O7⊢;refine ⟨rfl,.tuple #[.agg #[.bool false,.int .i64 0,.slice none 0 0],.int .i64 2],by simp[results,go_sem,k0,k1,k2],false,0,none,0,0,[],2,rfl,.inr (.inl ⟨(Xo3 HN),HF.out,rfl,rfl,rfl,rfl⟩),WordsIn.nil_ _,P0⟩
    ·have K3:Fit v e:=⟨O0,by omega,by omega⟩;have HF:=Ua K3;clear K3;obtain ⟨N,ZB⟩:∃N,(dig (2^64) v).length=N:=⟨_,rfl⟩;rw[ZB] at O0 ZG
     go_enter Tryz.func118,Tryz.ntmps118
     go_upto_region 1 with fail
     rw[(Xo0 HW)]
     go_wp2_with (refine (Xe1 HW).mono ?_;rintro r w1 ⟨a2,n2,c2,rfl,R1,C0⟩;have C5:N=n2:=by { rw[<-ZB];exact R1.len };subst C5;
                  have P5:=(Xo0 HN).step C0 (Nat.lt_of_succ_lt (Xo2 HN));have K2:=(Xo1 HN).step C0 (Xo2 HN);obtain ⟨E4,J1,I1,U4,j3,U3⟩:=K2.cf;have D3:=K2.d1 (.bool neg);have Z2:=K2.d2 (.bool neg) (.int .i64 e);obtain ⟨J8,O5,Q2⟩:=P5.cc;have I0:=Xh3 K2 (Below.next0 (Xe4 HN) C0) R1;clear K2 P5 C0 R1)
     have hS:=(Xo0 I0).store (.bool neg) (.int .i64 e) (.slice a2 N c2);obtain ⟨k0,k1,k2⟩:=hS.cc;have P0:=Q03.below (Xo1 I0) (Xar _) (b:=w.heap.size+1) (.bool neg) (.int .i64 e) (.slice a2 N c2);have O7:WordsIn _ a2 N c2 (dig (2^64) v):=⟨(Xe2 I0).len,(Xe2 I0).cap,(Xe2 I0).most,(Xe2 I0).low,((Xe2 I0).rd.store3 (Xo0 I0) (fun _=>by simp[nv]) (fun _=>by simp[nv]) (fun _=>by simp[nv]) (.bool neg) (.int .i64 e) (.slice a2 N c2)).more (Q1s _ _ _ _ _)⟩;clear hS E4 J1 I1 U4 j3 U3 D3 Z2 J8 O5 Q2;generalize World.setCell _ _ _=W5 at k0 k1 k2 P0 O7⊢;refine ⟨rfl,.tuple #[.agg #[.bool neg,.int .i64 e,.slice a2 N c2],.int .i64 0],by simp[results,go_sem,k0,k1,k2],neg,e,a2,N,c2,_,0,rfl,.inr (.inr ⟨(Xo3 HN),HF.out,rfl,rfl,rfl,rfl⟩),O7,P0⟩
  ·have ZG:¬((dig (2^64) v).length:Int)<=64:=(by omega);have K3:¬Fit v e:=fun h=>O0 h.1;have HF:=Ua K3;clear K3;obtain ⟨N,ZB⟩:∃N,(dig (2^64) v).length=N:=⟨_,rfl⟩;rw[ZB] at O0 ZG
   go_enter Tryz.func118,Tryz.ntmps118
   go_upto_region 1 with fail
   rw[(Xo0 HW)]
   go_wp2_with (refine (Xe1 HW).mono ?_;rintro r w1 ⟨a2,n2,c2,rfl,R1,C0⟩;have C5:N=n2:=by { rw[<-ZB];exact R1.len };subst C5;
                have P5:=(Xo0 HN).step C0 (Nat.lt_of_succ_lt (Xo2 HN));have K2:=(Xo1 HN).step C0 (Xo2 HN);obtain ⟨E4,J1,I1,U4,j3,U3⟩:=K2.cf;have D3:=K2.d1 (.bool false);have Z2:=K2.d2 (.bool false) (.int .i64 0);obtain ⟨J8,O5,Q2⟩:=P5.cc;have I0:=Xh3 K2 (Below.next0 (Xe4 HN) C0) R1;clear K2 P5 C0 R1)
   have hS:=(Xo0 I0).store (.bool false) (.int .i64 0) (.slice none 0 0);obtain ⟨k0,k1,k2⟩:=hS.cc;have P0:=Q03.below (Xo1 I0) (Xar _) (b:=w.heap.size+1) (.bool false) (.int .i64 0) (.slice none 0 0);have O7:WordsIn _ a2 N c2 (dig (2^64) v):=⟨(Xe2 I0).len,(Xe2 I0).cap,(Xe2 I0).most,(Xe2 I0).low,((Xe2 I0).rd.store3 (Xo0 I0) (fun _=>by simp[nv]) (fun _=>by simp[nv]) (fun _=>by simp[nv]) (.bool false) (.int .i64 0) (.slice none 0 0)).more (Q1s _ _ _ _ _)⟩;clear hS E4 J1 I1 U4 j3 U3 D3 Z2 J8 O5 Q2;generalize World.setCell _ _ _=W5 at k0 k1 k2 P0 O7⊢;refine ⟨rfl,.tuple #[.agg #[.bool false,.int .i64 0,.slice none 0 0],.int .i64 2],by simp[results,go_sem,k0,k1,k2],false,0,none,0,0,[],2,rfl,.inr (.inl ⟨(Xo3 HN),HF.out,rfl,rfl,rfl,rfl⟩),WordsIn.nil_ _,P0⟩
def dy (n e:Int):Dyadic:=Dyadic.ofIntWithPrec n (-e)
theorem Q7c (n e:Int):(dy n e).toRat=(n:Rat)*2^e:=by
 unfold dy;rw[Dyadic.toRat_ofIntWithPrec_eq_mul_two_pow,Int.neg_neg]
theorem Qdr (a b e:Int):dy a e+dy b e=dy (a+b) e:=by
 rw[<-Dyadic.toRat_inj,Dyadic.toRat_add,Q7c,Q7c,Q7c,Rat.intCast_add,Rat.add_mul]
theorem Qgd (a e:Int): -dy a e=dy (-a) e:=by
 unfold dy;rw[Dyadic.neg_ofIntWithPrec]
theorem Q4m (e:Int):dy 0 e=0:=rfl
theorem Qxa (a b e f:Int):dy a e*dy b f=dy (a*b) (e+f):=by
 rw[<-Dyadic.toRat_inj,Dyadic.toRat_mul,Q7c,Q7c,Q7c,Rat.intCast_mul,Rat.zpow_add (by decide)];generalize (2:Rat)^e=x;generalize (2:Rat)^f=y
 grind
theorem Q88 (a e:Int) (k:Nat):dy a (e+k)=dy (a*2^k) e:=by
 rw[<-Dyadic.toRat_inj,Q7c,Q7c,Rat.zpow_add (by decide),Rat.intCast_mul,Rat.intCast_pow,Rat.zpow_natCast];generalize (2:Rat)^e=x;rw[show ((2:Int):Rat)=2 from rfl];generalize (2:Rat)^k=y
 grind
theorem Qbq {a e:Int} (h:a%2=1):dy a e=.ofOdd a (-e) h:=Dyadic.ofOdd_eq_ofIntWithPrec.symm
theorem Qow {a b e f:Int} (ha:a%2=1) (hb:b%2=1) (h:dy a e=dy b f):a=b/\e=f:=by
 rw[Qbq ha,Qbq hb] at h;injection h with h1 h2;exact ⟨h1,by omega⟩
theorem Qj3 {a e:Int} (ha:a%2=1):dy a e≠0:=by
 rw[Qbq ha];exact Dyadic.of_ne_zero
def sgn (neg:Bool) (v:Nat):Int:=if neg=true then -(v:Int) else (v:Int)
theorem Q2z (neg:Bool):sgn neg 0=0:=by cases neg <;> rfl
theorem Q4n {neg:Bool} {v:Nat} (h:v%2=1):sgn neg v%2=1:=by
 unfold sgn;split <;> omega
theorem Qa2 (neg:Bool) (v:Nat):(sgn neg v).natAbs=v:=by
 unfold sgn;split <;> omega
theorem Qva {n m:Bool} {v u:Nat} (hv:v≠0) (h:sgn n v=sgn m u):n=m/\v=u:=by
 unfold sgn at h;cases n <;> cases m <;> simp at h <;> first|(refine ⟨rfl,?_⟩;omega)|(exfalso;omega)
theorem Qvb (n:Bool) (v:Nat):sgn (!n) v= -sgn n v:=by
 cases n <;> simp[sgn]
theorem Qvc (n m:Bool) (v u:Nat):sgn n v*sgn m u=sgn (n != m) (v*u):=by
 cases n <;> cases m <;> simp[sgn,Int.neg_mul,Int.mul_neg]
theorem Q3i (n:Bool) (v k:Nat):sgn n v*2^k=sgn n (v*2^k):=by
 cases n <;> simp[sgn,Int.neg_mul]
def Q6i (d:Dyadic):Prop:=d=0∨∃m e:Int,d=dy m e/\m%2=1/\m.natAbs<(2^64)^64/\-65536<=e/\e<=65536
def Q2m (neg:Bool) (e:Int) (L:LN):Dyadic:=dy (sgn neg (val (2^64) L)) e
theorem Qsh:Q2m false 0 []=0:=rfl
theorem Q1f {neg:Bool} {e:Int} {L:LN} (h:Q0a neg e L) (hl:Low (2^64) L):
 (L=[]/\neg=false/\e=0)∨(L≠[]/\val (2^64) L%2=1/\L=dig (2^64) (val (2^64) L)/\val (2^64) L<(2^64)^64/\-65536<=e/\e<=65536):=by
 unfold Q0a at h
 by_cases hL:L=[]
 ·rw[Uu hL] at h;exact .inl ⟨hL,h⟩
 ·rw[Uq hL] at h;obtain ⟨h1,h2,h3,h4,h5⟩:=h;have ht:trimL L=L:=by
   have:=Q3e L;rw[h1,Tw] at this;exact this.symm
  refine .inr ⟨hL,?_,?_,?_,h4,h5⟩
  ·cases L with
   |nil=>exact absurd rfl hL
   |cons x r=>
    have Vn:x%2=1:=h3;simp only[val];omega
  ·rw[<-Q1r (by decide) hl,ht]
  ·exact Uc (Q3d (by decide) L hl) (UN (by decide) h2)
theorem Q2h {neg:Bool} {e:Int} {L:LN} (h:Q0a neg e L) (hl:Low (2^64) L):Q6i (Q2m neg e L):=by
 rcases Q1f h hl with ⟨rfl,rfl,rfl⟩|⟨_,h1,_,h2,h3,h4⟩
 ·exact .inl rfl
 ·exact .inr ⟨_,_,rfl,Q4n h1,by rw[Qa2];exact h2,h3,h4⟩
theorem Q45 {neg:Bool} {e:Int} {L:LN} (h:Q0a neg e L) (hl:Low (2^64) L):Q2m neg e L=0↔L=[]:=by
 rcases Q1f h hl with ⟨rfl,rfl,rfl⟩|⟨h0,h1,_⟩
 ·exact ⟨fun _=>rfl,fun _=>rfl⟩
 ·exact ⟨fun h=>absurd h (Qj3 (Q4n h1)),fun h=>absurd h h0⟩
theorem Qj4 {n m:Bool} {e f:Int} {L K:LN} (h1:Q0a n e L) (l1:Low (2^64) L) (h2:Q0a m f K) (l2:Low (2^64) K) (h:Q2m n e L=Q2m m f K):n=m/\e=f/\L=K:=by
 rcases Q1f h1 l1 with ⟨rfl,rfl,rfl⟩|⟨h0,ho,hd,_⟩
 ·have hz:Q2m m f K=0:=h.symm;have hK:=(Q45 h2 l2).1 hz;subst hK;unfold Q0a at h2;rw[Uu rfl] at h2;exact ⟨h2.1.symm,h2.2.symm,rfl⟩
 ·rcases Q1f h2 l2 with ⟨rfl,rfl,rfl⟩|⟨k0,ko,kd,_⟩
  ·exact absurd h (Qj3 (Q4n ho))
  ·obtain ⟨hs,he⟩:=Qow (Q4n ho) (Q4n ko) h;obtain ⟨hn,hv⟩:=Qva (by omega) hs;exact ⟨hn,he,by rw[hd,kd,hv]⟩
theorem Qox {v z:Nat} (h:Qkv v z) (neg:Bool) (e:Int):dy (sgn neg (v / 2^z)) (e+z)=dy (sgn neg v) e:=by
 rw[Q88,Q3i,Nat.div_mul_cancel (Nat.dvd_of_mod_eq_zero h.1)]
theorem Qbr {v:Nat} (h:v<(2^64)^64):(dig (2^64) v).length<=64:=Q32 (by decide) h
theorem Qj5 {v:Nat} (h:(dig (2^64) v).length<=64):v<(2^64)^64:=by
 have h1:=Q3d (B:=2^64) (by decide) (dig (2^64) v) (Q29 (by decide) v);rw[Q10 (by decide)] at h1;exact Uc h1 (UN (by decide) h)
theorem Qge {neg:Bool} {e:Int} {q:Nat} (ho:q%2=1):Q0a neg e (dig (2^64) q)↔(q<(2^64)^64/\-65536<=e/\e<=65536):=by
 have XS:q≠0:=by omega
 have C1:dig (2^64) q≠[]:=fun h=>XS ((Q51 (by decide)).1 h);have ht:trimL (dig (2^64) q)=dig (2^64) q:=by rw[Q1r (by decide) (Q29 (by decide) q),Q10 (by decide)]
 have hh:(dig (2^64) q).headD 0%2=1:=by
  rw[Q4a (by decide) XS]
  show q%2^64%2=1
  omega
 unfold Q0a;rw[Uq C1,ht]
 constructor
 ·rintro ⟨_,h2,_,h4,h5⟩;exact ⟨Qj5 h2,h4,h5⟩
 ·rintro ⟨h1,h2,h3⟩;exact ⟨rfl,Qbr h1,hh,h2,h3⟩
theorem Q6j {neg:Bool} {e:Int} {q:Nat} (ho:q%2=1):Q6i (dy (sgn neg q) e)↔(q<(2^64)^64/\-65536<=e/\e<=65536):=by
 constructor
 ·rintro (h|⟨m,f,h,hm,h1,h2,h3⟩)
  ·exact absurd h (Qj3 (Q4n ho))
  ·obtain ⟨rfl,rfl⟩:=Qow (Q4n ho) hm h;rw[Qa2] at h1;exact ⟨h1,h2,h3⟩
 ·rintro ⟨h1,h2,h3⟩;exact .inr ⟨_,_,rfl,Q4n ho,by rw[Qa2];exact h1,h2,h3⟩
def Qut (d:Dyadic) (n':Bool) (e':Int) (L:LN) (er:Int):Prop:=
 (Q6i d/\er=0/\Q0a n' e' L/\Q2m n' e' L=d)∨(¬Q6i d/\er=2/\n'=false/\e'=0/\L=[])
theorem Qb3 {neg:Bool} {v:Nat} {exp:Int} {n':Bool} {e':Int} {L:LN} {er:Int} (h:Q79 neg v exp n' e' L er):Qut (dy (sgn neg v) exp) n' e' L er:=by
 rcases h with ⟨rfl,rfl,rfl,rfl,rfl⟩|⟨z,hz,h⟩
 ·exact .inl ⟨by rw[Q2z];exact .inl rfl,rfl,by decide,by rw[Q2z];rfl⟩
 ·have hf:=Q6j (neg:=neg) (e:=exp+z) hz.2;have hi:=Qge (neg:=neg) (e:=exp+z) hz.2;rw[Qox hz] at hf;rcases h with ⟨h,rfl,rfl,rfl,rfl⟩|⟨h1,h2,h3,rfl,rfl,rfl,rfl⟩
  ·refine .inr ⟨fun K3=>?_,rfl,rfl,rfl,rfl⟩;have h4:=hf.1 K3;rcases h with h|h|h
   ·omega
   ·omega
   ·exact h (hi.2 h4)
  ·refine .inl ⟨hf.2 (hi.1 h3),rfl,h3,?_⟩;unfold Q2m;rw[Q10 (by decide),Qox hz]
def Q3j (neg:Bool) (v:Nat) (e:Int):Prop:=(v=0->neg=false/\e=0)/\(v≠0->v%2=1)
theorem Qbs {neg:Bool} {v:Nat} {e:Int} {n':Bool} {v':Nat} {e':Int} (h:Qov neg v e n' v' e'):Q3j n' v' e'/\dy (sgn n' v') e'=dy (sgn neg v) e:=by
 rcases h with ⟨rfl,rfl,rfl,rfl⟩|⟨z,hz,rfl,rfl,rfl⟩
 ·exact ⟨⟨fun _=>⟨rfl,rfl⟩,fun h=>absurd rfl h⟩,by rw[Q2z,Q2z];rfl⟩
 ·have:=hz.2;exact ⟨⟨fun h=>by omega,fun _=>hz.2⟩,Qox hz _ _⟩
theorem Qds {neg:Bool} {v:Nat} {e:Int} {n':Bool} {e':Int} {L:LN} {er:Int} (hc:Q3j neg v e) (h:Qkz neg v e n' e' L er):Qut (dy (sgn neg v) e) n' e' L er:=by
 rcases h with ⟨rfl,rfl,rfl,rfl,rfl⟩|⟨h0,hf,rfl,rfl,rfl,rfl⟩|⟨h0,hf,rfl,rfl,rfl,rfl⟩
 ·exact .inl ⟨by rw[Q2z];exact .inl rfl,rfl,by decide,by rw[Q2z];rfl⟩
 ·refine .inr ⟨fun K3=>hf ?_,rfl,rfl,rfl,rfl⟩;obtain ⟨h1,h2,h3⟩:=(Q6j (hc.2 h0)).1 K3;exact ⟨Qbr h1,h2,h3⟩
 ·have h3:=(Qge (neg:=n') (e:=e') (hc.2 h0)).2 ⟨Qj5 hf.1,hf.2.1,hf.2.2⟩;exact .inl ⟨(Q6j (hc.2 h0)).2 ⟨Qj5 hf.1,hf.2.1,hf.2.2⟩,rfl,h3,by unfold Q2m;rw[Q10 (by decide)]⟩
def Q2w:List Int->List Int->Int
 |[],[]=>0
 |[],_::_=> -1
 |_::_,[]=>1
 |a::xs,b::bs=>if a<b then -1 else if b<a then 1 else Q2w xs bs
theorem Q6k:∀(a b:List Int),Q2w a b=0↔a=b
 |[],[]=>by simp[Q2w]
 |[],_::_=>by simp[Q2w]
 |_::_,[]=>by simp[Q2w]
 |a::xs,b::bs=>by
  have ih:=Q6k xs bs;simp only[Q2w,List.cons.injEq]
  split
  ·constructor
   ·intro h;omega
   ·rintro ⟨rfl,_⟩;omega
  ·split
   ·constructor
    ·intro h;omega
    ·rintro ⟨rfl,_⟩;omega
   ·rw[ih]
    constructor
    ·intro h;exact ⟨by omega,h⟩
    ·exact fun h=>h.2
theorem Qbt (a:List Int):Q2w a a=0:=(Q6k a a).2 rfl
theorem Q3v:∀(a b:List Int),Q2w b a= -Q2w a b
 |[],[]=>rfl
 |[],_::_=>rfl
 |_::_,[]=>rfl
 |a::xs,b::bs=>by
  have ih:=Q3v xs bs;simp only[Q2w]
  by_cases h1:a<b
  ·rw[Uq (by omega),Uu h1,Uu h1];rfl
  ·by_cases h2:b<a
   ·rw[Uu h2,Uq h1,Uu h2]
   ·rw[Uq h2,Uq h1,Uq h1,Uq h2,ih]
theorem Qdt:∀(a b:List Int),-1<=Q2w a b/\Q2w a b<=1
 |[],[]=>by simp[Q2w]
 |[],_::_=>by simp[Q2w]
 |_::_,[]=>by simp[Q2w]
 |a::xs,b::bs=>by
  have ih:=Qdt xs bs;simp only[Q2w]
  split
  ·omega
  ·split
   ·omega
   ·exact ih
theorem Q5y:∀(a b c:List Int),0<Q2w a b->0<Q2w b c->0<Q2w a c
 |[],[],_=>fun h=>by simp[Q2w] at h
 |[],_::_,_=>fun h=>by simp[Q2w] at h
 |_::_,[],[]=>fun _ h=>by simp[Q2w] at h
 |_::_,[],_::_=>fun _ h=>by simp[Q2w] at h
 |_::_,_::_,[]=>fun _ _=>by simp[Q2w]
 |a::xs,b::bs,c::cs=>by
  have ih:=Q5y xs bs cs;simp only[Q2w];intro h1 h2
  by_cases c1:a<b
  ·rw[Uu c1] at h1;omega
  ·rw[Uq c1] at h1
   by_cases c2:b<c
   ·rw[Uu c2] at h2;omega
   ·rw[Uq c2] at h2;rw[Uq (by omega)]
    by_cases c3:c<a
    ·rw[Uu c3];omega
    ·rw[Uq c3];rw[Uq (by omega)] at h1;rw[Uq (by omega)] at h2;exact ih h1 h2
abbrev Q0m:=Dyadic × List Int
def Qbu (l:List Q0m):Prop:=l.Pairwise fun p q=>0<Q2w p.2 q.2
def Q1k (E:List Int):List Q0m->Dyadic
 |[]=>0
 |p::r=>(if p.2=E then p.1 else 0)+Q1k E r
theorem Q91 (E:List Int) (l r:List Q0m):Q1k E (l++r)=Q1k E l+Q1k E r:=by
 induction l with
 |nil=>simp[Q1k]
 |cons p l ih=>rw[Xab,Q1k,Q1k,ih,Dyadic.add_assoc]
theorem Qj6 {E:List Int} {l:List Q0m} (h:∀p∈l,p.2≠E):Q1k E l=0:=by
 induction l with
 |nil=>rfl
 |cons p l ih=>
  rw[Q1k,Uq (h p (by simp)),ih fun q hq=>h q (by simp[hq])];rfl
theorem Qbu.tail_ne {p:Q0m} {l:List Q0m} (h:Qbu (p::l)):∀q∈l,q.2≠p.2:=fun q hq e=>by
 have:=(TG.1 h).1 q hq;rw[e,Qbt] at this;omega
theorem Q4w {l:List Q0m} (hn:l.Pairwise fun p q=>p.2≠q.2) {p:Q0m} (h:p∈l):Q1k p.2 l=p.1:=by
 induction l with
 |nil=>cases h
 |cons q l ih=>
  obtain ⟨h1,h2⟩:=TG.1 hn;rcases UD.1 h with rfl|h
  ·rw[Q1k,Uu rfl,Qj6 (fun r hr e=>h1 r hr e.symm),Xbr]
  ·rw[Q1k,Uq (h1 p h),ih h2 h,Dyadic.zero_add]
theorem Qbu.once {l:List Q0m} (h:Qbu l):l.Pairwise fun p q=>p.2≠q.2:=by
 unfold Qbu at h;refine h.imp ?_;intro p q h e;rw[e,Qbt] at h;omega
theorem Qbu.same:∀{l r:List Q0m},Qbu l->Qbu r->(∀p,p∈l↔p∈r)->l=r
 |[],[],_,_,_=>rfl
 |[],q::r,_,_,h=>by have:=(h q).2 (by simp);cases this
 |p::l,[],_,_,h=>by have:=(h p).1 (by simp);cases this
 |p::l,q::r,hl,hr,h=>by
  obtain ⟨l1,l2⟩:=TG.1 hl;obtain ⟨r1,r2⟩:=TG.1 hr;have hpq:p=q:=by
   have hp:=(h p).1 (by simp);have hq:=(h q).2 (by simp);rcases UD.1 hp with e|hp
   ·exact e
   ·rcases UD.1 hq with e|hq
    ·exact e.symm
    ·have a1:=l1 q hq;have a2:=r1 p hp;have a3:=Q3v p.2 q.2;omega
  subst hpq
  congr 1
  refine Qbu.same l2 r2 fun x=>?_;have hx:=h x
  constructor
  ·intro B4;rcases UD.1 (hx.1 (by simp[B4])) with e|h'
   ·subst e;exact absurd rfl (hl.tail_ne x B4)
   ·exact h'
  ·intro hxr;rcases UD.1 (hx.2 (by simp[hxr])) with e|h'
   ·subst e;exact absurd rfl (hr.tail_ne x hxr)
   ·exact h'
def Q8f (l:List Q0m) (c:Q0m):List Q0m:=
 match l with
 |[]=>[c]
 |q::r=>if 0<Q2w q.2 c.2 then q::Q8f r c else if q.2=c.2 then (q.1+c.1,q.2)::r else c::q::r
def Q23 (l:List Q0m):List Q0m:=l.foldl Q8f []
theorem Qgf (l:List Q0m) (c:Q0m) (p:Q0m) (h:p∈Q8f l c):p∈l∨p.2=c.2:=by
 induction l with
 |nil=>simp only[Q8f,Uy] at h;exact .inr (by rw[h])
 |cons q r ih=>
  simp only[Q8f] at h
  split at h
  ·rcases UD.1 h with rfl|h
   ·exact .inl (by simp)
   ·rcases ih h with h|h
    ·exact .inl (by simp[h])
    ·exact .inr h
  ·split at h
   ·rename_i h2;rcases UD.1 h with rfl|h
    ·exact .inr h2
    ·exact .inl (by simp[h])
   ·rcases UD.1 h with rfl|h
    ·exact .inr rfl
    ·exact .inl h
theorem Qoy {l:List Q0m} (h:Qbu l) (c:Q0m):Qbu (Q8f l c):=by
 induction l with
 |nil=>simp[Q8f,Qbu]
 |cons q r ih=>
  obtain ⟨h1,h2⟩:=TG.1 h;simp only[Q8f]
  split
  ·rename_i hc;refine TG.2 ⟨fun p hp=>?_,ih h2⟩;rcases Qgf r c p hp with hp|hp
   ·exact h1 p hp
   ·rw[hp];exact hc
  ·split
   ·exact TG.2 ⟨h1,h2⟩
   ·rename_i J1 I1;have h0:0<Q2w c.2 q.2:=by
     have a1:=Q3v q.2 c.2;have a2:Q2w q.2 c.2≠0:=fun e=>I1 ((Q6k _ _).1 e);omega
    refine TG.2 ⟨fun p hp=>?_,h⟩;rcases UD.1 hp with rfl|hp
    ·exact h0
    ·exact Q5y _ _ _ h0 (h1 p hp)
theorem Qoz (E:List Int) (l:List Q0m) (c:Q0m):Q1k E (Q8f l c)=Q1k E l+Q1k E [c]:=by
 induction l with
 |nil=>simp[Q8f,Q1k]
 |cons q r ih=>
  simp only[Q8f]
  split
  ·simp only[Q1k,ih,Dyadic.add_assoc]
  ·split
   ·rename_i h2;simp only[Q1k,Xbr];rw[<-h2]
    by_cases hq:q.2=E
    ·rw[Uu hq,Uu hq,Uu hq];grind
    ·rw[Uq hq,Uq hq,Uq hq];grind
   ·simp only[Q1k,Xbr];grind
theorem Qsi (l:List Q0m) (c:Q0m):(∃p∈Q8f l c,p.2=c.2)/\∀p∈l,∃q∈Q8f l c,q.2=p.2:=by
 induction l with
 |nil=>exact ⟨⟨c,by simp[Q8f],rfl⟩,fun p hp=>(by cases hp)⟩
 |cons q r ih=>
  obtain ⟨⟨x,hx,Z3⟩,ih2⟩:=ih;simp only[Q8f]
  split
  ·refine ⟨⟨x,by simp[hx],Z3⟩,fun p hp=>?_⟩;rcases UD.1 hp with rfl|hp
   ·exact ⟨p,by simp,rfl⟩
   ·obtain ⟨y,hy,Xm⟩:=ih2 p hp;exact ⟨y,by simp[hy],Xm⟩
  ·split
   ·rename_i h2;refine ⟨⟨_,TY,h2⟩,fun p hp=>?_⟩;rcases UD.1 hp with rfl|hp
    ·exact ⟨_,TY,rfl⟩
    ·exact ⟨p,by simp[hp],rfl⟩
   ·exact ⟨⟨c,by simp,rfl⟩,fun p hp=>⟨p,by simp only[UD] at hp⊢;exact .inr hp,rfl⟩⟩
theorem Q7v (l:List Q0m) (c:Q0m):Q23 (l++[c])=Q8f (Q23 l) c:=by simp[Q23]
theorem Q6l (l:List Q0m):Qbu (Q23 l)/\(∀E,Q1k E (Q23 l)=Q1k E l)/\(∀p∈Q23 l,∃q∈l,q.2=p.2)/\(∀p∈l,∃q∈Q23 l,q.2=p.2):=by
 have key:∀n,∀l:List Q0m,l.length=n->Qbu (Q23 l)/\(∀E,Q1k E (Q23 l)=Q1k E l)/\(∀p∈Q23 l,∃q∈l,q.2=p.2)/\(∀p∈l,∃q∈Q23 l,q.2=p.2):=by
  intro n
  induction n with
  |zero=>
   intro l hl;obtain rfl:=UC.1 hl;exact ⟨List.Pairwise.nil,fun _=>rfl,fun p hp=>(by cases hp),fun p hp=>(by cases hp)⟩
  |succ n ih=>
   intro l hl;have C1:l≠[]:=fun e=>by rw[e] at hl;simp at hl
   obtain ⟨k,c,rfl⟩:∃k c,l=k++[c]:=⟨l.dropLast,l.getLast C1,(List.dropLast_concat_getLast C1).symm⟩;obtain ⟨h1,h2,h3,h4⟩:=ih k (by simpa using hl);rw[Q7v];refine ⟨Qoy h1 c,fun E=>by rw[Qoz,h2,Q91],fun p hp=>?_,fun p hp=>?_⟩
   ·rcases Qgf _ c p hp with hp|hp
    ·obtain ⟨q,hq,P6⟩:=h3 p hp;exact ⟨q,by simp[hq],P6⟩
    ·exact ⟨c,by simp,hp.symm⟩
   ·obtain ⟨i1,i2⟩:=Qsi (Q23 k) c;rcases Tl.1 hp with hp|hp
    ·obtain ⟨q,hq,P6⟩:=h4 p hp;obtain ⟨r,hr,P1⟩:=i2 q hq;exact ⟨r,hr,P1.trans P6⟩
    ·rw[Uy] at hp;subst hp;exact i1
 exact key _ l rfl
theorem Ql0 (l:List Q0m) (p:Q0m):p∈Q23 l↔(∃q∈l,q.2=p.2)/\p.1=Q1k p.2 l:=by
 obtain ⟨h1,h2,h3,h4⟩:=Q6l l
 constructor
 ·intro hp;exact ⟨h3 p hp,by rw[<-h2,Q4w h1.once hp]⟩
 ·rintro ⟨⟨q,hq,P6⟩,hp⟩;obtain ⟨r,hr,P1⟩:=h4 q hq;have h5:=Q4w h1.once hr;rw[h2] at h5;have h6:r=p:=by
   obtain ⟨r1,r2⟩:=r;obtain ⟨p1,p2⟩:=p;simp only at P1 h5 hp P6;rw[P6] at P1;subst P1;rw[<-h5,<-hp]
  rw[<-h6];exact hr
theorem Qp0 {l:List Q0m} (h:Qbu l):Q23 l=l:=by
 refine Qbu.same (Q6l l).1 h fun p=>?_;rw[Ql0]
 constructor
 ·rintro ⟨⟨q,hq,P6⟩,hp⟩;have h5:=Q4w h.once hq;rw[P6] at h5;have:q=p:=by
   obtain ⟨q1,q2⟩:=q;obtain ⟨p1,p2⟩:=p;simp only at P6 h5 hp;subst P6;rw[hp,h5]
  rw[<-this];exact hq
 ·intro hp;exact ⟨⟨p,hp,rfl⟩,(Q4w h.once hp).symm⟩
def Q5n (l:List Q0m) (c:Q0m):List Q0m:=
 match l with
 |[]=>[c]
 |q::r=>if q.2=c.2 then (q.1+c.1,q.2)::r else q::Q5n r c
def Qak (l:List Q0m):List Q0m:=l.foldl Q5n []
theorem Qgg (l:List Q0m) (c:Q0m):Qak (l++[c])=Q5n (Qak l) c:=by simp[Qak]
theorem Qmg (E:List Int) (l:List Q0m) (c:Q0m):Q1k E (Q5n l c)=Q1k E l+Q1k E [c]:=by
 induction l with
 |nil=>simp[Q5n,Q1k]
 |cons q r ih=>
  simp only[Q5n]
  split
  ·rename_i h2;simp only[Q1k,Xbr];rw[<-h2]
   by_cases hq:q.2=E
   ·rw[Uu hq,Uu hq,Uu hq];grind
   ·rw[Uq hq,Uq hq,Uq hq];grind
  ·simp only[Q1k,ih,Dyadic.add_assoc]
theorem Qdu (l:List Q0m) (c:Q0m) (p:Q0m) (h:p∈Q5n l c):(∃q∈l,q.2=p.2)∨p.2=c.2:=by
 induction l with
 |nil=>simp only[Q5n,Uy] at h;exact .inr (by rw[h])
 |cons q r ih=>
  simp only[Q5n] at h
  split at h
  ·rename_i h2;rcases UD.1 h with rfl|h
   ·exact .inr h2
   ·exact .inl ⟨p,by simp[h],rfl⟩
  ·rcases UD.1 h with rfl|h
   ·exact .inl ⟨p,by simp,rfl⟩
   ·rcases ih h with ⟨x,hx,Z3⟩|h
    ·exact .inl ⟨x,by simp[hx],Z3⟩
    ·exact .inr h
theorem Qp1 (l:List Q0m) (c:Q0m):(∃p∈Q5n l c,p.2=c.2)/\∀p∈l,∃q∈Q5n l c,q.2=p.2:=by
 induction l with
 |nil=>exact ⟨⟨c,by simp[Q5n],rfl⟩,fun p hp=>(by cases hp)⟩
 |cons q r ih=>
  obtain ⟨⟨x,hx,Z3⟩,ih2⟩:=ih;simp only[Q5n]
  split
  ·rename_i h2;refine ⟨⟨_,TY,h2⟩,fun p hp=>?_⟩;rcases UD.1 hp with rfl|hp
   ·exact ⟨_,TY,rfl⟩
   ·exact ⟨p,by simp[hp],rfl⟩
  ·refine ⟨⟨x,by simp[hx],Z3⟩,fun p hp=>?_⟩;rcases UD.1 hp with rfl|hp
   ·exact ⟨p,by simp,rfl⟩
   ·obtain ⟨y,hy,Xm⟩:=ih2 p hp;exact ⟨y,by simp[hy],Xm⟩
theorem Qmh {l:List Q0m} (h:l.Pairwise fun p q=>p.2≠q.2) (c:Q0m):(Q5n l c).Pairwise fun p q=>p.2≠q.2:=by
 induction l with
 |nil=>simp[Q5n]
 |cons q r ih=>
  obtain ⟨h1,h2⟩:=TG.1 h;simp only[Q5n]
  split
  ·exact TG.2 ⟨h1,h2⟩
  ·rename_i hc;refine TG.2 ⟨fun p hp=>?_,ih h2⟩;rcases Qdu r c p hp with ⟨x,hx,Z3⟩|hp
   ·rw[<-Z3];exact h1 x hx
   ·rw[hp];exact hc
theorem Qp2 (l:List Q0m):((Qak l).Pairwise fun p q=>p.2≠q.2)/\(∀E,Q1k E (Qak l)=Q1k E l)/\(∀p∈Qak l,∃q∈l,q.2=p.2)/\(∀p∈l,∃q∈Qak l,q.2=p.2):=by
 have key:∀n,∀l:List Q0m,l.length=n->((Qak l).Pairwise fun p q=>p.2≠q.2)/\(∀E,Q1k E (Qak l)=Q1k E l)/\(∀p∈Qak l,∃q∈l,q.2=p.2)/\(∀p∈l,∃q∈Qak l,q.2=p.2):=by
  intro n
  induction n with
  |zero=>
   intro l hl;obtain rfl:=UC.1 hl;exact ⟨List.Pairwise.nil,fun _=>rfl,fun p hp=>(by cases hp),fun p hp=>(by cases hp)⟩
  |succ n ih=>
   intro l hl;have C1:l≠[]:=fun e=>by rw[e] at hl;simp at hl
   obtain ⟨k,c,rfl⟩:∃k c,l=k++[c]:=⟨l.dropLast,l.getLast C1,(List.dropLast_concat_getLast C1).symm⟩;obtain ⟨h1,h2,h3,h4⟩:=ih k (by simpa using hl);rw[Qgg];refine ⟨Qmh h1 c,fun E=>by rw[Qmg,h2,Q91],fun p hp=>?_,fun p hp=>?_⟩
   ·rcases Qdu _ c p hp with ⟨x,hx,Z3⟩|hp
    ·obtain ⟨q,hq,P6⟩:=h3 x hx;exact ⟨q,by simp[hq],P6.trans Z3⟩
    ·exact ⟨c,by simp,hp.symm⟩
   ·obtain ⟨i1,i2⟩:=Qp1 (Qak k) c;rcases Tl.1 hp with hp|hp
    ·obtain ⟨q,hq,P6⟩:=h4 p hp;obtain ⟨r,hr,P1⟩:=i2 q hq;exact ⟨r,hr,P1.trans P6⟩
    ·rw[Uy] at hp;subst hp;exact i1
 exact key _ l rfl
theorem Qvd (l:List Q0m) (p:Q0m):p∈Qak l↔(∃q∈l,q.2=p.2)/\p.1=Q1k p.2 l:=by
 obtain ⟨h1,h2,h3,h4⟩:=Qp2 l
 constructor
 ·intro hp;exact ⟨h3 p hp,by rw[<-h2,Q4w h1 hp]⟩
 ·rintro ⟨⟨q,hq,P6⟩,hp⟩;obtain ⟨r,hr,P1⟩:=h4 q hq;have h5:=Q4w h1 hr;rw[h2] at h5;have h6:r=p:=by
   obtain ⟨r1,r2⟩:=r;obtain ⟨p1,p2⟩:=p;simp only at P1 h5 hp P6;rw[P6] at P1;subst P1;rw[<-h5,<-hp]
  rw[<-h6];exact hr
theorem Qev (l:List Q0m) (p:Q0m):p∈Qak l↔p∈Q23 l:=by rw[Qvd,Ql0]
def Qau:Dyadic->Bool
 | .zero=>true
 | .ofOdd n k _=>decide (n.natAbs<(2^64)^64) && (decide (-65536<=-k) && decide (-k<=65536))
theorem Q3w (d:Dyadic):Qau d=true↔Q6i d:=by
 cases d with
 |zero=>exact ⟨fun _=>.inl rfl,fun _=>rfl⟩
 |ofOdd n k h=>
  have e:Dyadic.ofOdd n k h=dy n (-k):=by rw[Qbq h,Int.neg_neg]
  constructor
  ·intro hb;simp only[Qau,Xad,TU] at hb;exact .inr ⟨n,-k,e,h,hb.1,hb.2.1,hb.2.2⟩
  ·rintro (h0|⟨m,f,h1,hm,h2,h3,h4⟩)
   ·exact absurd h0 Dyadic.of_ne_zero
   ·rw[e] at h1;obtain ⟨rfl,hk⟩:=Qow h hm h1;simp only[Qau,Xad,TU];exact ⟨h2,by omega,by omega⟩
theorem Ql1 (d:Dyadic):Qau d=false↔¬Q6i d:=by
 rw[<-Q3w];simp
theorem Qgh:Q6i 0:=.inl rfl
def Q41 (l:List Q0m):Except Int (List Q0m):=
 if (Q23 l).any (fun p=> !Qau p.1)=true then .error 2
 else if 24<((Q23 l).filter fun p=>decide (p.1≠0)).length then .error 6
 else .ok ((Q23 l).filter fun p=>decide (p.1≠0))
def Q1l (n:Nat) (E:List Int):Prop:=E.length=n/\(∀x∈E,0<=x)/\E.sum<=8
instance (n:Nat) (E:List Int):Decidable (Q1l n E):=by unfold Q1l;infer_instance
def Qgi (n:Nat) (p:Q0m):Prop:=Q6i p.1/\Q1l n p.2
def Q92 (n:Nat) (P:List Q0m):Prop:=Qbu P/\P.length<=24/\∀p∈P,p.1≠0/\Qgi n p
theorem Qmi {n:Nat} {l P:List Q0m} (hl:∀p∈l,Q1l n p.2) (h:Q41 l=.ok P):Q92 n P:=by
 unfold Q41 at h
 split at h
 ·cases h
 ·rename_i ha
  split at h
  ·cases h
  ·rename_i O0;injection h with h;subst h;obtain ⟨h1,_,h3,_⟩:=Q6l l;refine ⟨List.Pairwise.filter _ h1,by omega,fun p hp=>?_⟩;obtain ⟨hm,hz⟩:=List.mem_filter.1 hp;refine ⟨by simpa using hz,?_,?_⟩
   ·rw[<-Q3w];cases hf:Qau p.1 with
    |true=>rfl
    |false=>
     exfalso;refine ha ?_;rw[Xba];exact ⟨p,hm,by rw[hf];rfl⟩
   ·obtain ⟨q,hq,P6⟩:=h3 p hm;rw[<-P6];exact hl q hq
theorem Qgj {n:Nat} {P:List Q0m} (h:Q92 n P):P.filter (fun p=>decide (p.1≠0))=P:=by
 rw[List.filter_eq_self];intro p hp;simpa using (h.2.2 p hp).1
theorem Qp3 {n:Nat} {P:List Q0m} (h:Q92 n P):Q41 P=.ok P:=by
 unfold Q41;rw[Qp0 h.1,Qgj h,Uq,Uq (by have:=h.2.1;omega)];intro ha;obtain ⟨p,hp,hf⟩:=Xba.1 ha;have:=(Q3w p.1).2 (h.2.2 p hp).2.1;rw[this] at hf;cases hf
def addM (a b:List Q0m):Except Int (List Q0m):=Q41 (a++b)
def Qxb (a:List Q0m):List Q0m:=a.map fun p=>(-p.1,p.2)
def degM (P:List Q0m):Int:=P.foldl (fun d p=>max d p.2.sum) 0
def mulT (a b:Q0m):Q0m:=(a.1*b.1,List.zipWith (·+·) a.2 b.2)
def Qxc (a b:List Q0m):List Q0m:=a.flatMap fun x=>b.map (mulT x)
def mulM (a b:List Q0m):Except Int (List Q0m):=
 if a≠[]/\b≠[]/\8<degM a+degM b then .error 6
 else if (Qxc a b).any (fun p=> !Qau p.1)=true then .error 2
 else Q41 (Qxc a b)
def powM (p:List Q0m):Nat->Except Int (List Q0m)
 |0=>.ok p
 |k+1=>match powM p k with
  | .error e=>.error e
  | .ok q=>mulM q p
def Qxd (n:Nat) (p:List Q0m) (k:Nat):Except Int (List Q0m):=
 match k with
 |0=>.ok [(1,List.replicate n 0)]
 |k+1=>powM p k
inductive Ex where
 |num (c:Option Dyadic)
 |var (i:Nat)
 |sum (l:List (Bool × Ex))
 |prod (l:List Ex)
 |pow (b:Ex) (k:Nat)
def Qav (n i:Nat):List Int:=(List.replicate n 0).set i 1
mutual
def Qj7 (n:Nat):Ex->Except Int (List Q0m)
 | .num none=>.error 2
 | .num (some c)=>Q41 [(c,List.replicate n 0)]
 | .var i=>Q41 [(1,Qav n i)]
 | .sum l=>Qve n none l
 | .prod l=>Qvf n none l
 | .pow b k=>match Qj7 n b with
   | .error e=>.error e
   | .ok p=>Qxd n p k
def Qve (n:Nat) (acc:Option (List Q0m)):List (Bool × Ex)->Except Int (List Q0m)
 |[]=>.ok (acc.getD [])
 |(b,t)::r=>match Qj7 n t with
  | .error e=>.error e
  | .ok p=>match acc with
    |none=>Qve n (some (if b then Qxb p else p)) r
    |some q=>match addM q (if b then Qxb p else p) with
     | .error e=>.error e
     | .ok q'=>Qve n (some q') r
def Qvf (n:Nat) (acc:Option (List Q0m)):List Ex->Except Int (List Q0m)
 |[]=>.ok (acc.getD [])
 |t::r=>match Qj7 n t with
  | .error e=>.error e
  | .ok p=>match acc with
    |none=>Qvf n (some p) r
    |some q=>match mulM q p with
     | .error e=>.error e
     | .ok q'=>Qvf n (some q') r
end
end Go.Proofs.YtidojbkhlenahaaGreatDoor
