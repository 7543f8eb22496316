/- Part 5 of the proof of LawParseBuilt: RefE, RefF, Box3, NumA. Condition: as each theorem says; none at the end. -/
import Derived.Test.YtdilmfakkppgpaaGreatDoorPkParseBuilt04
set_option maxRecDepth 100000
set_option maxHeartbeats 16000000
namespace Go.Proofs.YtdilmfakkppgpaaGreatDoor
open Go.RowKit WordsM
theorem Qpg (l:LN):NatM.val l=val (2^32) l:=by
 induction l with
 |nil=>rfl
 |cons x r ih=>simp only[NatM.val,val,ih]
theorem Qbc (l:LN):NatM.trimL l=trimL l:=by
 induction h:l.length generalizing l with
 |zero=>obtain rfl:=UH.1 h;rfl
 |succ n ih=>
  rcases List.eq_nil_or_concat l with rfl|⟨r,x,rfl⟩
  ·simp at h
  ·rw[List.concat_eq_append] at h⊢
   by_cases h0:x=0
   ·subst h0;rw[NatM.trim_snoc_zero,Q3o];exact ih r (by simpa using h)
   ·rw[NatM.trim_snoc x h0,Q51 r h0]
structure Q0n (w:World) (a:OA) (n c:Nat) (v:Nat):Prop where
 len:(dig (2^32) v).length=n
 cap:n<=c
 most:c<=9223372036854775807
 rd:RdI .u32 w w.heap.size a (dig (2^32) v)
theorem Q0n.step {w w':World} {a:OA} {n c v:Nat} (h:Q0n w a n c v) (hb:Bw w w'):Q0n w' a n c v:=⟨h.len,h.cap,h.most,h.rd.step hb⟩
theorem Q40 (a:OA) (n c:Nat) (ls:LN) (w:World) (hn:ls.length=n) (hc:n<=c) (JZ:c<=9223372036854775807) (h:RdI .u32 w w.heap.size a ls) (hl:Low (2^32) ls):
 Calls Tryz.prog 103 #[.slice a n c] w fun e w'=>∃n',e=.returned (.slice a n' n')/\n'<=n/\Q0n w' a n' n' (val (2^32) ls)/\w=w':=by
 refine (Q88 a n c ls w hn hc JZ h).mono ?_;rintro e w' ⟨rfl,rfl⟩;have h1:NatM.trimL ls=dig (2^32) (val (2^32) ls):=by rw[Qbc,Q1q (by decide) hl]
 have h2:=trim_len ls;rw[<-Qbc,h1,hn] at h2;rw[h1];refine ⟨_,rfl,h2,⟨rfl,Ug _,by omega,?_⟩,rfl⟩;rw[<-h1,Qbc,<-Q3a ls];exact h.front _
theorem Qbd {B:Nat} (hB:0<B) {l:LN} (h:Low B l) (i:Nat):l[i]?.getD 0<B:=by
 cases hx:l[i]? with
 |none=>exact hB
 |some x=>exact h x (Ud hx)
theorem Q5p {B:Nat} (l:LN) (i:Nat):val B (l.take (i+1))=val B (l.take i)+B^i*l[i]?.getD 0:=by
 cases hx:l[i]? with
 |none=>
  have h:l.length<=i:=List.getElem?_eq_none_iff.1 hx;rw[UA (by omega),UA h];simp
 |some x=>exact Q1e l i x hx
theorem Q7e (a:OA) (n c:Nat) (ls:LN) (i:Nat) (w:World) {B:Nat} (hn:ls.length=n) (h:RdI .u32 w B a ls) (hl:Low (2^32) ls):
 Calls Tryz.prog 106 #[.slice a n c,.int .i64 (i:Int)] w fun e w'=>e=.returned (.int .u64 ((ls[i]?.getD 0:Nat):Int))/\w=w':=by
 by_cases B0:i<n
 ·obtain ⟨x,hx⟩:∃x,ls[i]?=some x:=⟨_,Ub (by omega)⟩;have J3:x<4294967296:=hl x (Ud hx);have E0:(i:Int)<(n:Int):=by omega
  obtain ⟨b,o,rfl,F3,V0⟩:=h.at_ hx;rw[hx,TY];clear hx h hl
  go_enter Tryz.func106,Tryz.ntmps106
  go_wp2_with fail
  go_ret;exact ⟨rfl,rfl⟩
 ·have E0:¬(i:Int)<(n:Int):=by omega
  rw[Tk (by omega),Option.getD_none];clear h hl
  go_enter Tryz.func106,Tryz.ntmps106
  go_wp2_with fail
  go_ret;exact ⟨rfl,rfl⟩
theorem Qt4 {B:Nat} {A K L:LN} {i cr s:Nat} (hL:L.length=i) (hs:A[i]?.getD 0+K[i]?.getD 0+cr=s) (h:val B L+cr*B^i=val B (A.take i)+val B (K.take i)):
 val B (L++[s%B])+s / B*B^(i+1)=val B (A.take (i+1))+val B (K.take (i+1)):=by
 have h2:(s%B+B*(s / B))*B^i=s*B^i:=by rw[Nat.mod_add_div]
 rw[Ti] at h2;rw[Qba,hL,Q5p,Q5p,UG (B^i) (s%B),UG (B^i),UG (B^i),Th,UG (B^i) B,<-UN,UG (s / B) B];have h3:(A[i]?.getD 0+K[i]?.getD 0+cr)*B^i=s*B^i:=by rw[hs]
 rw[Ti,Ti] at h3;omega
theorem Q9z (K:IntKind) (x:Int):∀u∈[Value.int K x],u.oneCell'=true:=by
 intro u hu;rw[Uy] at hu;subst hu;rfl
theorem Qez {B:Nat} {l:LN} (h:Low B l) {x:Nat} (hx:x<B):Low B (l++[x]):=fun y hy=>by
 rcases UY.1 hy with h1|h1
 ·exact h y h1
 ·rw[Uy] at h1;subst h1;exact hx
theorem Row.rdI {k:IntKind} {w:World} {B:Nat} {e:TypeId} {a:OA} {n c:Nat} {ms:LN} (h:Row w B e 1 a n c (ms.map (nv k))):RdI k w w.heap.size a ms:=(Row.rdN (k:=k) (ms:=ms) h).rdI
theorem Qdn (a:OA) (n c:Nat) (v:Nat) (b:OA) (m d:Nat) (u:Nat) (w:World) (h1:Q0n w a n c v) (h2:Q0n w b m d u) (hn:n<=100000) (hm:m<=100000):
 Calls Tryz.prog 59 #[.slice a n c,.slice b m d] w fun e w'=>∃a' n',e=.returned (.slice a' n' n')/\Q0n w' a' n' n' (v+u)/\Bw w w':=by
 have Jp:val (2^32) (dig (2^32) v)=v:=Q0x (by decide) v;have Jr:val (2^32) (dig (2^32) u)=u:=Q0x (by decide) u;have Zu:=Q2c (B:=2^32) (by decide) v;have Zd:=Q2c (B:=2^32) (by decide) u;have QN:=h1.len;have Xu:=h2.len;have A1:=h1.rd;have G1:=h2.rd;obtain ⟨A,hA⟩:∃A,dig (2^32) v=A:=⟨_,rfl⟩;obtain ⟨K,hK⟩:∃K,dig (2^32) u=K:=⟨_,rfl⟩;rw[hA] at Jp Zu QN A1;rw[hK] at Jr Zd Xu G1;obtain ⟨i0,O1,P1,K1,J1⟩:=Xby Q6q;have HI:=Xh4 O1 P1 K1 J1;have H:=Xh6 Jp Jr Zu Zd A1 G1;have hdg1:=fun (i:Nat) W (hb:Bw w W)=>Q7e a n c A i W QN (A1.below hb) Zu;have WJ:=fun (i:Nat) W (hb:Bw w W)=>Q7e b m d K i W Xu (G1.below hb) Zd;have HD:=Xh2 hdg1 WJ;clear Jp Jr Zu Zd A1 G1 hA hK h1 h2 hdg1 WJ O1 P1 K1 J1;obtain ⟨M,hM,hMn,hMm,hM3⟩:∃M,M=max n m/\n<=M/\m<=M/\M<=100000:=⟨max n m,rfl,by omega,by omega,by omega⟩
 go_enter Tryz.func59,Tryz.ntmps59
 go_wp2_with fail
 go_loopw [5,6,7] (fun ov cv iv wr=>∃(i cr:Nat) (L:LN) (ao:OA) (co:Nat),ov=.slice ao i co/\cv=.int .u64 (cr:Int)/\iv=.int .i64 (i:Int)/\cr<=1/\(i<=M∨i=M+1/\cr=0)/\Row wr w.heap.size 152 1 ao i co (L.map (nv .u32))/\L.length=i/\Low (2^32) L/\val (2^32) L+cr*(2^32)^i=val (2^32) (A.take i)+val (2^32) (K.take i)/\Bw w wr) (fun _ _ iv _=>M+2-(intOf iv).toNat)
 case atStart=>exact ⟨0,0,[],none,0,rfl,rfl,rfl,by decide,.inl (Uu _),Row.nil_ _ _ _ _,rfl,fun x hx=>by simp at hx,by simp[val],Uf _ _⟩
 case round=>
  obtain ⟨i,cr,L,ao,co,rfl,rfl,rfl,Z8,hiM,I0,K5,O0,J0,hb⟩:=hrel
  by_cases b7:n<=i/\m<=i/\cr=0
  ·obtain ⟨e1,e2,rfl⟩:=b7;rw[UA (by omega),UA (by omega),(Xo0 H),(Xo1 H),TU,Tu] at J0;have hT:=Q40 ao i co L wr K5 I0.cap.1 I0.cap.2 (Row.rdI I0) O0;rw[J0] at hT;have HT:=Xh2 hT hb;have l1:¬(i:Int)<(n:Int):=(by omega);have l2:¬(i:Int)<(m:Int):=(by omega);clear hT hb J0 O0 I0 hiM
   go_wp2_with (refine (Xo0 HT).mono ?_;rintro e w1 ⟨n',rfl,XB,hD,rfl⟩;have KY:=Ua hD;clear hD)
   go_ret;exact ⟨ao,n',rfl,KY.out,(Xe1 HT)⟩
  ·have hiM':i<=M:=(by omega);have N1:=(Xo0 HD) i wr hb;have E1:=(Xe1 HD) i wr hb;have J3:A[i]?.getD 0<4294967296:=Qbd (by decide) (Xo2 H) i;have JM:K[i]?.getD 0<4294967296:=Qbd (by decide) (Xo3 H) i;have Z0:=Qt4 (B:=2^32) (s:=A[i]?.getD 0+K[i]?.getD 0+cr) K5 rfl J0;have G3:i=M->A[i]?.getD 0=0/\K[i]?.getD 0=0:=fun e=>⟨by rw[Tk (by omega)];rfl,by rw[Tk (by omega)];rfl⟩;generalize A[i]?.getD 0=x at*;generalize K[i]?.getD 0=y at*;obtain ⟨s,hs⟩:∃s,x+y+cr=s:=⟨_,rfl⟩;have hsI:(cr:Int)+((x:Int)+(y:Int))=(s:Int):=(by omega);have KT:s<18446744073709551616:=(by omega);have W6:=Qpd s KT;rw[hs] at Z0;obtain ⟨lo,q5⟩:∃lo,s%4294967296=lo:=⟨_,rfl⟩;obtain ⟨hi,XF⟩:∃hi,s / 4294967296=hi:=⟨_,rfl⟩;rw[show s%2^32=lo from q5,show s / 2^32=hi from XF] at Z0;have hhiI:(s:Int) / 4294967296=(hi:Int):=(by omega);have Qw:lo<4294967296:=(by omega);have Za:hi<=1:=(by omega);have hiM2:i+1<=M∨i+1=M+1/\hi=0:=by
    rcases Nat.lt_or_ge i M with h|h
    ·exact .inl h
    ·have:=G3 (by omega);exact .inr (by omega)
   rw[q5] at W6;have hbs:=hb.size;have V5:∀o,Bw w (wr.alloc o):=fun o=>hb.alloc hb.size o;have R4:∀o,w.heap.size<=(wr.alloc o).heap.size:=fun o=>(V5 o).size;have Ja:∀o,Row (wr.alloc o) w.heap.size 152 1 ao i co (L.map (nv .u32)):=fun o=>I0.alloc o;have HH:=Xh6 Z0 Ja V5 R4 O0 hiM2;have key:(i:Int)<(n:Int)∨(¬(i:Int)<(n:Int)/\(i:Int)<(m:Int))∨(¬(i:Int)<(n:Int)/\¬(i:Int)<(m:Int)/\(0:Int)<(cr:Int)):=(by omega);clear Z0 Ja V5 R4 O0 hiM2 hb I0 G3 J0 hs q5 XF hiM b7 J3 JM;rcases key with l1|⟨l1,l2⟩|⟨l1,l2,l3⟩
   all_goals
    go_wp2_with (first
     |(go_at_call_of 106 a;refine N1.mono ?_;rintro e w1 ⟨rfl,rfl⟩)
     |(go_at_call_of 106 b;refine E1.mono ?_;rintro e w1 ⟨rfl,rfl⟩)
     |(at_builtin;refine Q0p rfl (.tmp 33) (.tmp 37) 54 rfl w _ 152 i0 _ 1 4 Tryz.underlying54 (Xo0 HI) (Xo1 HI) (Xo2 HI) (Xe3 HI) rfl (by decide) w.heap.size ((Xo2 HH) _) ((Xo3 HH) _) ao i co _ rfl ((Xo1 HH) _) ⟨wr.heap.size,0,none⟩ 1 1 [.int .u32 (lo:Int)] rfl rfl (Q39 wr #[.int .u32 (lo:Int)] _ _) (Q9z _ _) (i+1) rfl (by omega) (by omega) ?_;intro a3 c3 w3 B9 QL G0 J6;have HO:=Xh2 B9 G0;clear B9 QL G0 J6))
    refine ⟨⟨i+1,hi,L++[lo],a3,c3,rfl,rfl,by simp,Za,(Xe5 HH),?_,by simp[K5],Qez (Xo4 HH) Qw,(Xo0 HH),(Xe1 HO)⟩,by simp only[intOf];omega⟩;rw[UP];exact (Xo0 HO)
theorem Qg9 {B:Nat} {A K:LN} {i x S:Nat} (hx:A[i]?=some x) (h:S=val B (A.take i)*val B K+x*B^i*val B K):S=val B (A.take (i+1))*val B K:=by
 rw[Q1e A i x hx,h,Ti,UG x]
theorem Qga {B V:Nat} {K:LN} {i j x y:Nat} (hy:K[j]?=some y):V+x*B^i*val B (K.take j)+x*y*B^(i+j)=V+x*B^i*val B (K.take (j+1)):=by
 rw[Q1e K j y hy,Tt,Tz,Nat.add_assoc]
 congr 2
 rw[UN x (B^i),<-UN (B^i) (B^j) y,UG (B^i*B^j) y];simp only[UN]
theorem Qph {T:TypeId} {K:IntKind} {w:World} {g:Nat} {ls:LN} (h:Arr T K w g ls) (k:Nat):Arr T K (w.drewN k) g ls:=h
theorem Q1w {B:Nat} {a w:World} (h:Below B a w) (k:Nat):Below B a (w.drewN k):=⟨h.os,h.tape,h.output,h.size,h.block⟩
theorem Qdo (a:OA) (n c:Nat) (v:Nat) (b:OA) (m d:Nat) (u:Nat) (w:World) (h1:Q0n w a n c v) (h2:Q0n w b m d u) (hn:n<=100000) (hm:m<=100000):
 Calls Tryz.prog 63 #[.slice a n c,.slice b m d] w fun e w'=>∃a' n',e=.returned (.slice a' n' n')/\Q0n w' a' n' n' (v*u)/\Bw w w':=by
 have Jp:val (2^32) (dig (2^32) v)=v:=Q0x (by decide) v;have Jr:val (2^32) (dig (2^32) u)=u:=Q0x (by decide) u;have Zu:=Q2c (B:=2^32) (by decide) v;have Zd:=Q2c (B:=2^32) (by decide) u;have QN:=h1.len;have Xu:=h2.len;have A1:=h1.rd;have G1:=h2.rd;obtain ⟨A,hA⟩:∃A,dig (2^32) v=A:=⟨_,rfl⟩;obtain ⟨K,hK⟩:∃K,dig (2^32) u=K:=⟨_,rfl⟩;rw[hA] at Jp Zu QN A1;rw[hK] at Jr Zd Xu G1;subst QN;subst Xu;have H:=Xh4 Jp Jr Zu Zd;have HR:=Xh2 A1 G1;clear Jp Jr Zu Zd A1 G1 hA hK h1 h2;have U3:=Xam (P:=Tryz.prog) 54 152 (.int .u32 0) 4 Tryz.underlying54 Q6q rfl .i64 .i64 (A.length+K.length) (by omega) (by omega);rw[show ((A.length+K.length:Nat):Int)=(A.length:Int)+(K.length:Int) by omega,Q1k] at U3
 go_enter Tryz.func63,Tryz.ntmps63
 go_wp2_with fail
 have F2:Bw w (w.alloc (.cells (Array.replicate (A.length+K.length) (nv .u32 0)) 152)):=Ba;have X9:=Arr.zeros w 152 .u32 (A.length+K.length);have H0:=Xh2 F2 X9;clear F2 X9 U3
 go_loopw [6] (fun iv wr=>∃(i:Nat) (L:LN),iv=.int .i64 (i:Int)/\i<=A.length/\Arr 152 .u32 wr w.heap.size L/\L.length=A.length+K.length/\Low (2^32) L/\val (2^32) L=val (2^32) (A.take i)*val (2^32) K/\(∀t,i+K.length<=t->t<A.length+K.length->L[t]?=some 0)/\Bw w wr) (fun iv _=>A.length-(intOf iv).toNat)
 case atStart=>
  refine ⟨0,List.replicate (A.length+K.length) 0,rfl,Uu _,(Xe1 H0),by simp,fun x hx=>?_,by rw[Q7d];simp[val],fun t _ ht=>?_,(Xo0 H0)⟩
  ·rw[TP hx];decide
  ·rw[TL];simp[ht]
 case round=>
  obtain ⟨i,L,rfl,hi,hL,K5,O0,J0,u4,N0⟩:=hrel
  by_cases B0:i<A.length
  ·have E0:(i:Int)<(A.length:Int):=(by omega);obtain ⟨x,hx⟩:∃x,A[i]?=some x:=⟨_,Ub B0⟩;obtain ⟨ba,oa,N6,V5,E6⟩:=((Xo0 HR).below N0).at_ hx;have J3:x<4294967296:=(Xo2 H) x (Ud hx);subst N6;have HH:=Xh6 hL O0 J0 N0 hx u4;clear hL O0 J0 N0 u4 hx E6
   go_wp2_with fail
   go_loopw [7,8] (fun cv jv wr=>∃(j cr:Nat) (L:LN),cv=.int .u64 (cr:Int)/\jv=.int .i64 (j:Int)/\j<=K.length/\cr<4294967296/\Arr 152 .u32 wr w.heap.size L/\L.length=A.length+K.length/\Low (2^32) L/\val (2^32) L+cr*(2^32)^(i+j)=val (2^32) (A.take i)*val (2^32) K+x*(2^32)^i*val (2^32) (K.take j)/\(∀t,i+K.length<=t->t<A.length+K.length->L[t]?=some 0)/\Bw w wr) (fun _ jv _=>K.length-(intOf jv).toNat)
   case atStart=>exact ⟨0,0,L,rfl,rfl,Uu _,by decide,(Xo0 HH),K5,(Xo1 HH),by rw[(Xo2 HH)];simp[val],(Xe5 HH),(Xo3 HH)⟩
   case round=>
    have HX:=Ua (Xo4 HH);clear K5 HH;obtain ⟨j,cr,L,rfl,rfl,hj,Z8,hL,K5,O0,J0,u4,N0⟩:=hrel
    by_cases Wo:j<K.length
    ·have hlj':(j:Int)<(K.length:Int):=(by omega);obtain ⟨y,hy⟩:∃y,K[j]?=some y:=⟨_,Ub Wo⟩;obtain ⟨z,hz⟩:∃z,L[i+j]?=some z:=⟨_,Ub (by omega)⟩;obtain ⟨bb,ob,L6,E3,y9⟩:=((Xe1 HR).below N0).at_ hy;obtain ⟨ba',oa',hae',hba',E6⟩:=((Xo0 HR).below N0).at_ HX.out;injection hae' with hae';injection hae' with e1 e2;subst e1 e2;have JM:y<4294967296:=(Xe3 H) y (Ud hy);have K9:z<4294967296:=O0 z (Ud hz);subst L6;have k6:=(Qld (B:=4294967296) (by decide) J3 JM K9 Z8).2.2;have Z0:=Qbb (B:=2^32) (b:=x*y) (c:=cr) hz J0;rw[Qga hy] at Z0;have hp:x*y<=4294967295*4294967295:=Nat.mul_le_mul (by omega) (by omega);obtain ⟨p,YB⟩:∃p,x*y=p:=⟨_,rfl⟩;have YW:(x:Int)*(y:Int)=(p:Int):=(by rw[<-YB];norm_cast);rw[YB] at hp Z0 k6;obtain ⟨s,hs⟩:∃s,z+p+cr=s:=⟨_,rfl⟩;have hsI:(cr:Int)+((p:Int)+(z:Int))=(s:Int):=(by omega);have KT:s<18446744073709551616:=(by omega);have Qb:(p:Int)+(z:Int)<18446744073709551616:=(by omega);have hpl2:(p:Int)<18446744073709551616:=(by omega);rw[hs] at Z0 k6;have W6:=Qpd s KT;obtain ⟨lo,q5⟩:∃lo,s%4294967296=lo:=⟨_,rfl⟩;obtain ⟨Qe,XF⟩:∃hi,s / 4294967296=hi:=⟨_,rfl⟩;rw[show s%2^32=lo from q5,show s / 2^32=Qe from XF] at Z0;rw[q5] at W6;rw[XF] at k6;have hhiI:(s:Int) / 4294967296=(Qe:Int):=(by omega);have Qw:lo<4294967296:=(by omega);have hzc:wr.cell? ⟨w.heap.size,i+j,none⟩=some (.int .u32 (z:Int)):=hL.cell hz;have Wv:wr.frozen? ⟨w.heap.size,i+j,none⟩=false:=hL.frozen _;have Wf:(i:Int)+(j:Int)<(A.length:Int)+(K.length:Int):=(by omega);have HH:=Xh5 Z0 hL O0 N0 u4;clear Z0 hL O0 J0 N0 u4 hs q5 XF YB hy hz
     go_wp2_with fail
     go_quiet (fail)
     go_wp2_with fail
     refine ⟨⟨j+1,Qe,L.set (i+j) lo,by simp,by simp,by omega,k6,(Qph (Xo1 HH) nq).set (i+j) lo,by simp[K5],Q3z (Xo2 HH) Qw,(Xo0 HH),fun t Y1 U1=>?_,(Q1w (Xo3 HH) nq).setCell (p:=⟨w.heap.size,i+j,none⟩) (Ug _) _⟩,by simp only[intOf];omega⟩;rw[Tj (by omega)];exact (Xe4 HH) t Y1 U1
    ·obtain rfl:j=K.length:=(by omega);have hlj':¬((K.length:Int)<(K.length:Int)):=(by omega);have P1:=u4 (i+K.length) (Ug _) (by omega);have hzc:wr.cell? ⟨w.heap.size,i+K.length,none⟩=some (.int .u32 0):=hL.cell P1;have Wv:wr.frozen? ⟨w.heap.size,i+K.length,none⟩=false:=hL.frozen _;have Wf:(i:Int)+(K.length:Int)<(A.length:Int)+(K.length:Int):=(by omega);have C3:=Q9w (B:=2^32) L (i+K.length) cr 0 P1;rw[TU,Tu,J0,Ta] at C3;have hvo:=Qg9 HX.out C3;have HH:=Xh5 hvo hL O0 N0 u4;clear C3 hvo J0 hL O0 N0 u4 P1
     go_wp2_with fail
     refine ⟨⟨i+1,L.set (i+K.length) cr,by simp,by omega,(Xo1 HH).set _ cr,by simp[K5],Q3z (Xo2 HH) Z8,(Xo0 HH),fun t Y1 U1=>?_,(Xo3 HH).setCell (p:=⟨w.heap.size,i+K.length,none⟩) (Ug _) _⟩,by simp only[intOf];omega⟩;rw[Tj (by omega)];exact (Xe4 HH) t (by omega) U1
  ·obtain rfl:i=A.length:=(by omega);have E0:¬((A.length:Int)<(A.length:Int)):=(by omega);rw[Ta,(Xo0 H),(Xo1 H)] at J0;have hT:=Q40 (some ⟨w.heap.size,0,none⟩) (A.length+K.length) (A.length+K.length) L wr K5 (Ug _) (by omega) hL.rd O0;rw[J0] at hT;have HE:=Xh2 hT N0;clear hT N0 J0 hL O0 u4
   go_wp2_with (refine (Xo0 HE).mono ?_;rintro e w1 ⟨n',rfl,XB,hD,rfl⟩;have KY:=Ua hD;clear hD)
   go_ret;exact ⟨_,n',rfl,KY.out,(Xe1 HE)⟩
theorem Qvs {ls:LN} {i x k m:Nat} (h0:val (2^32) (ls.take i)=0) (hx:ls[i]?=some x) (he:x=2^k*(2*m+1)) (hk:k<32):Qjg (val (2^32) ls) (32*i+k):=by
 have hi:i<ls.length:=(Um.1 hx).1;have hxe:ls[i]=x:=(Um.1 hx).2;have h1:=Q3p (B:=2^32) ls i;rw[h0,UB,UC hi,hxe] at h1;simp only[val] at h1;obtain ⟨V,hV⟩:∃V,val (2^32) (ls.drop (i+1))=V:=⟨_,rfl⟩;rw[hV] at h1;obtain ⟨t,ht⟩:∃t,32=k+(t+1):=⟨31-k,by omega⟩;have e1:x+2^32*V=2^k*(2*(m+2^t*V)+1):=by
  rw[he,show (2:Nat)^32=2^k*(2^t*2) by rw[<-Th,<-Tz,<-ht],UN,<-Tt]
  congr 1
  rw[UG (2^t) 2,UN,Tt];omega
 rw[e1,<-Xar,<-UN,<-Tz] at h1;rw[h1];have hp:0<2^(32*i+k):=Tr (by decide);exact ⟨Nat.mul_mod_right _ _,by rw[Nat.mul_div_cancel_left _ hp];omega⟩
theorem Qt5 (q:Nat) (h:q<4294967296):bits BinOp.and IntKind.u32 (q:Int) 1=((q%2:Nat):Int):=
 bits_mask .u32 32 (by decide) (fun n h0 h1=>by rw[IntKind.wrap_u32];omega) 1 (by decide) (q:Int) (by omega) (by omega)
theorem Q7f (a:OA) (n c:Nat) (v:Nat) (w:World) (h:Q0n w a n c v) (hn:n<=1000000) (h0:v≠0):
 Calls Tryz.prog 104 #[.slice a n c] w fun e w'=>(∃z:Nat,e=.returned (.int .i64 (z:Int))/\Qjg v z/\z<32*n)/\Bw w w':=by
 have hv:val (2^32) (dig (2^32) v)=v:=Q0x (by decide) v;have hl:=Q2c (B:=2^32) (by decide) v;have QN:=h.len;have hr:=h.rd;obtain ⟨A,hA⟩:∃A,dig (2^32) v=A:=⟨_,rfl⟩;rw[hA] at hv hl QN hr;have H:=Xh4 hv hl hr h0;clear hv hl hr hA h h0
 go_enter Tryz.func104,Tryz.ntmps104
 go_wp2_with fail
 go_loopw [3,4] (fun nv iv wr=>∃i:Nat,nv=.int .i64 (32*(i:Int))/\iv=.int .i64 (i:Int)/\i<=n/\val (2^32) (A.take i)=0/\Bw w wr) (fun _ iv _=>n-(intOf iv).toNat)
 case atStart=>exact ⟨0,rfl,rfl,Uu _,by simp[val],Uf _ _⟩
 case round=>
  obtain ⟨i,rfl,rfl,hi,hz,hb⟩:=hrel
  by_cases B0:i<n
  ·have E0:(i:Int)<(n:Int):=(by omega);obtain ⟨x,hx⟩:∃x,A[i]?=some x:=⟨_,Ub (by omega)⟩;have J3:x<4294967296:=(Xo1 H) x (Ud hx);obtain ⟨g1,o1,N6,B7,E6⟩:=((Xo2 H).below hb).at_ hx;subst N6;have HH:=Xh3 hz hb hx;clear hz hb hx
   by_cases y5:x=0
   ·subst y5
    go_wp2_with fail
    refine ⟨⟨i+1,by simp only[Xaz,true_and];omega,by simp,by omega,?_,(Xo1 HH)⟩,by simp only[intOf];omega⟩;rw[Q1e A i 0 (Xe2 HH),(Xo0 HH),Nat.mul_zero]
   ·have hx0':((x:Int)==0)=false:=by rw[Ui];omega
    go_wp2_with fail
    go_loopw [3,5] (fun nv xv wq=>∃k q:Nat,nv=.int .i64 (32*(i:Int)+(k:Int))/\xv=.int .u32 (q:Int)/\q≠0/\q<4294967296/\x=2^k*q/\k<32/\wq=wr) (fun _ xv _=>(intOf xv).toNat)
    case atStart=>exact ⟨0,x,by simp,rfl,y5,J3,by simp,by decide,rfl⟩
    case round=>
     obtain ⟨k,q,rfl,rfl,QM,Yc,hxq,hk,rfl⟩:=hrel;have W6:=Qt5 q Yc
     by_cases Vm:q%2=1
     ·rw[Vm] at W6;have htz:=Qvs (Xo0 HH) (Xe2 HH) (m:=q / 2) (k:=k) (by rw[hxq];congr 1;omega) hk;rw[(Xo0 H)] at htz;have HT:=Ua htz;clear htz hxq Vm
      go_wp2_with fail
      go_ret;exact ⟨⟨32*i+k,by simp,HT.out,by omega⟩,(Xo1 HH)⟩
     ·have he:q%2=0:=(by omega);rw[he] at W6;obtain ⟨p,hp⟩:∃p,q=2*p:=⟨q / 2,by omega⟩;have YW:(q:Int) / 2=(p:Int):=(by omega);have N9:k+1<32:=by
       rcases Nat.lt_or_ge (k+1) 32 with h|h
       ·exact h
       ·exfalso;obtain rfl:k=31:=(by omega);rw[hp,show (2:Nat)^31=2147483648 from rfl] at hxq;omega
      have hxp:x=2^(k+1)*p:=(by rw[hxq,hp,Th,UN]);have HX:=Xh2 hxp hp;clear hxp hxq Vm he hp
      go_wp2_with fail
      refine ⟨⟨k+1,p,?_,rfl,?_,?_,(Xo0 HX),N9,trivial⟩,?_⟩
      ·simp only[Xaz,true_and];omega
      ·have:=(Xe1 HX);omega
      ·have:=(Xe1 HX);omega
      ·simp only[intOf];have:=(Xe1 HX);omega
  ·exfalso;rw[UA (by omega),(Xo0 H)] at hz;exact (Xe3 H) hz
theorem Qpi {x y s:Nat} (hx:x<2^32) (hs:s<32):(x+y*2^32) / 2^s%2^32=x / 2^s+(y*2^(32-s))%2^32:=by
 have hp:(2:Nat)^32=2^s*2^(32-s):=by rw[<-Tz];congr 1;omega
 have h1:=Qp5 (s:=s) (t:=32-s) (x:=x) (y:=y) (by rw[show s+(32-s)=32 by omega];exact hx);rw[show s+(32-s)=32 by omega] at h1;have e1:(x+y*2^32) / 2^s=x / 2^s+y*2^(32-s):=by
  rw[hp,<-UN,UG y,UN,Xbm _ _ (Tr (by decide))]
 rw[e1,Nat.add_mod,TX (a:=x / 2^s) (TO (Xbj _ _) hx),TX h1]
theorem Qn1 (A:LN) (hA:Low (2^32) A) (k s:Nat) (hk:k<=A.length) (hs:s<32):val (2^32) (shr s (32-s) (A.drop k))=val (2^32) A / 2^(32*k+s):=by
 have h1:=Qjf s (32-s) (A.drop k);rw[show s+(32-s)=32 by omega] at h1;rw[h1,Qle (Tr (by decide)) A hA k hk,Nat.div_div_eq_div_mul,<-Xar,<-Tz]
theorem Qn2 {A:LN} (hA:Low (2^32) A) (k s:Nat) (hs:s<32):Low (2^32) (shr s (32-s) (A.drop k)):=by
 have h:=Qji (s:=s) (t:=32-s) (l:=A.drop k) (by rw[show s+(32-s)=32 by omega];exact fun x hx=>hA x (Xbn hx));rwa[show s+(32-s)=32 by omega] at h
theorem Qn3 {A:LN} (hA:Low (2^32) A) {k s:Nat} (hk:A.length<=k):val (2^32) A / 2^(32*k+s)=0:=by
 apply Xap
 have h1:=Q3k (B:=2^32) (Tr (by decide)) A hA;rw[<-Xar] at h1;exact Ue h1 (UR (by decide) (by omega))
theorem Qpj (x y:Nat) (hx:x<4294967296) (hy:y<4294967296):bits BinOp.or IntKind.u64 (x:Int) ((y*4294967296:Nat):Int)=((x+y*4294967296:Nat):Int):=by
 rw[u64_or_nat _ _ (by omega) (by omega),Nat.or_comm];have:=Nat.shiftLeft_add_eq_or_of_lt (a:=y) (i:=32) (b:=x) hx;rw[Nat.shiftLeft_eq] at this;rw[show y*4294967296=y*2^32 from rfl,<-this,Xbf]
theorem Qt6 {s t:Nat} {l:LN} {j x:Nat} (h:l[j]?=some x):(shr s t l).take (j+1)=(shr s t l).take j++[x / 2^s+((l[j+1]?).getD 0*2^t)%2^(s+t)]:=by
 rw[Tc,Qjh s t l j x h];rfl
theorem Qjo (a:OA) (n c:Nat) (v z:Nat) (w:World) (h:Q0n w a n c v) (hn:n<=1000000) (hz:z<=100000000):
 Calls Tryz.prog 105 #[.slice a n c,.int .i64 (z:Int)] w fun e w'=>∃a' n' c' lb,e=.returned (.tuple #[.slice a' n' c',.bool lb])/\Q0n w' a' n' c' (v / 2^z)/\Bw w w':=by
 have hv:val (2^32) (dig (2^32) v)=v:=Q0x (by decide) v;have hl:=Q2c (B:=2^32) (by decide) v;have QN:=h.len;have hr:=h.rd;obtain ⟨A,hA⟩:∃A,dig (2^32) v=A:=⟨_,rfl⟩;rw[hA] at hv hl QN hr;subst QN;obtain ⟨k,hk⟩:∃k,z / 32=k:=⟨_,rfl⟩;obtain ⟨s,hs⟩:∃s,z%32=s:=⟨_,rfl⟩;have YQ:s<32:=by omega
 have WX:z=32*k+s:=by omega
 have Wu:(z:Int).tdiv 32=(k:Int):=by rw[Int.tdiv_eq_ediv_of_nonneg (by omega)];omega
 have hsI:(z:Int).tmod 32=(s:Int):=by rw[Int.tmod_eq_emod_of_nonneg (by omega)];omega
 have hkI2:(z:Int) / 32=(k:Int):=by omega
 have hsI2:(z:Int)%32=(s:Int):=by omega
 obtain ⟨i0,O1,P1,K1,J1⟩:=Xby Q6q;have HI:=Xh4 O1 P1 K1 J1;have H:=Xh4 hv hl hr WX;clear hv hl hr hA h hk hs WX O1 P1 K1 J1
 by_cases Wg:A.length<=k
 ·have Vv:(A.length:Int)<=(k:Int):=by omega
  have V8:=Qn3 (s:=s) (Xo1 H) Wg;rw[(Xo0 H),<-(Xe3 H)] at V8;rw[V8];clear V8
  go_enter Tryz.func105,Tryz.ntmps105
  go_wp2_with fail
  refine ⟨rfl,.tuple #[.slice none 0 0,.bool (decide ((0:Int)<(A.length:Int)))],by simp[results,go_sem],none,0,0,_,rfl,⟨rfl,Ug _,Uu _,.inl rfl⟩,Uf _ _⟩
 ·obtain ⟨m,hm⟩:∃m,A.length=k+m:=⟨A.length-k,by omega⟩;have Vv:¬((A.length:Int)<=(k:Int)):=by omega
  have hkn2:(k:Int)<(A.length:Int):=by omega
  go_enter Tryz.func105,Tryz.ntmps105
  go_wp2_with fail
  go_loopw [6,7] (fun lv iv wr=>∃(i:Nat) (lb:Bool),lv=.bool lb/\iv=.int .i64 (i:Int)/\i<=k/\w=wr) (fun _ iv _=>k-(intOf iv).toNat)
  case atStart=>exact ⟨0,false,rfl,rfl,Uu _,rfl⟩
  case round=>
   obtain ⟨i,lb,rfl,rfl,hi,rfl⟩:=hrel
   by_cases B0:i<k
   ·have E0:(i:Int)<(k:Int):=(by omega);obtain ⟨x,hx⟩:∃x,A[i]?=some x:=⟨_,Ub (by omega)⟩;obtain ⟨g1,o1,N6,B7,E6⟩:=(Xo2 H).at_ hx;subst N6;have Wk:(i:Int)<(A.length:Int):=(by omega);cases lb
    ·go_wp2_with fail
     exact ⟨⟨i+1,_,rfl,by simp,by omega,trivial⟩,by simp only[intOf];omega⟩
    ·go_wp2_with fail
     exact ⟨⟨i+1,_,rfl,by simp,by omega,trivial⟩,by simp only[intOf];omega⟩
   ·obtain rfl:k=i:=(by omega);have E0:¬((k:Int)<(k:Int)):=(by omega);obtain ⟨x,hx⟩:∃x,A[k]?=some x:=⟨_,Ub (by omega)⟩;obtain ⟨g1,o1,N6,B7,E6⟩:=(Xo2 H).at_ hx;subst N6;clear hx
    go_upto_region 8 with fail
    go_cut [6] (fun lv wx=>∃lb2 nq,lv=.bool lb2/\w.drewN nq=wx)
    case first=>
     cases lb
     ·go_quiet (fail)
      go_wp2_with fail
      go_meet;exact ⟨_,nq,rfl,rfl⟩
     ·go_quiet (fail)
      go_wp2_with fail
      go_meet;exact ⟨_,nq,rfl,rfl⟩
    case rest=>
     obtain ⟨lb2,nq,rfl,rfl⟩:=hcut;have Yy:=Ua (Q1w (Uf w.heap.size w) nq);clear E6 B0 E0 hi
     go_wp2_with fail
     go_loopw [8,9] (fun ov iv wr=>∃(t:Nat) (ao:OA) (co:Nat),ov=.slice ao t co/\iv=.int .i64 ((k:Int)+(t:Int))/\t<=m/\Row wr w.heap.size 152 1 ao t co (((shr s (32-s) (A.drop k)).take t).map (nv .u32))/\Bw w wr) (fun _ iv _=>k+m-(intOf iv).toNat)
     case atStart=>exact ⟨0,none,0,rfl,by simp,Uu _,Row.nil_ _ _ _ _,Yy.out⟩
     case round=>
      obtain ⟨t,ao,co,rfl,rfl,ht,I0,hb⟩:=hrel
      by_cases B0:t<m
      ·have E0:(t:Int)<(m:Int):=(by omega);obtain ⟨y0,JV⟩:∃y,A[k+t]?=some y:=⟨_,Ub (by omega)⟩;have J3:y0<4294967296:=(Xo1 H) y0 (Ud JV);obtain ⟨g2,o2,N6,Y6,E6⟩:=((Xo2 H).below hb).at_ JV;injection N6 with N6;injection N6 with e1 e2;subst e1 e2;have JM:A[k+t+1]?.getD 0<4294967296:=Qbd (by decide) (Xo1 H) (k+t+1);have hd:∀W:World,W.heap=wr.heap->Calls Tryz.prog 106 #[.slice (some ⟨g1,o1,none⟩) (k+m) c,.int .i64 ((k:Int)+(t:Int)+1)] W fun e w'=>e=.returned (.int .u64 ((A[k+t+1]?.getD 0:Nat):Int))/\∃n,w'=W.drewN n:=fun W hW=>by
        have h1:=Q7e (some ⟨g1,o1,none⟩) (k+m) c A (k+t+1) W (B:=w.heap.size) (by omega) (RdI.keep ((Xo2 H).below hb) (fun p _=>by unfold World.cell?;rw[hW])) (Xo1 H);rw[show ((k+t+1:Nat):Int)=(k:Int)+(t:Int)+1 by omega] at h1;refine h1.mono ?_;rintro e w' ⟨rfl,rfl⟩;exact ⟨rfl,0,rfl⟩
       have ZK:=Qt6 (s:=s) (t:=32-s) (l:=A.drop k) (j:=t) (x:=y0) (by rw[Xad];exact JV);rw[Xad,show k+(t+1)=k+t+1 by omega,show s+(32-s)=32 by omega] at ZK;generalize A[k+t+1]?.getD 0=y at*;have hdp:=Qpi (x:=y0) (y:=y) (s:=s) J3 YQ;rw[<-hdp] at ZK;have A7:=Qpj y0 y J3 JM;obtain ⟨q,hq⟩:∃q,y0+y*4294967296=q:=⟨_,rfl⟩;obtain ⟨yy,Ww⟩:∃yy,y*4294967296=yy:=⟨_,rfl⟩;have hyyI:(y:Int)*4294967296=(yy:Int):=(by omega);have hyyl:yy<18446744073709551616:=(by omega);have Yc:q<18446744073709551616:=(by omega);rw[Ww] at A7;rw[<-Ww,hq] at A7;rw[Ww] at A7;rw[show y0+y*2^32=q from hq] at ZK;obtain ⟨p,hp⟩:∃p,q / 2^s=p:=⟨_,rfl⟩;have YW:(q:Int) / 2^s=(p:Int):=(by rw[<-hp];norm_cast);have Qb:p<18446744073709551616:=(by rw[<-hp];exact TO (Xbj _ _) Yc);have W6:=Qpd p Qb;rw[hp] at ZK;obtain ⟨lo,q5⟩:∃lo,p%4294967296=lo:=⟨_,rfl⟩;have Qw:lo<4294967296:=(by omega);rw[q5] at W6;rw[show p%2^32=lo from q5] at ZK;have hkt:(k:Int)+(t:Int)<(k:Int)+(m:Int):=(by omega);have V5:∀o nq,Bw w ((wr.drewN nq).alloc o):=fun o nq=>(Q1w hb nq).alloc hb.size o;have R4:∀o nq,w.heap.size<=((wr.drewN nq).alloc o).heap.size:=fun o nq=>(V5 o nq).size;have Ja:∀o nq,Row ((wr.drewN nq).alloc o) w.heap.size 152 1 ao t co (((shr s (32-s) (A.drop k)).take t).map (nv .u32)):=fun o nq=>(I0.drewN nq).alloc o;have HH:=Xh4 ZK Ja V5 R4;clear ZK Ja V5 R4 hb I0 hq Ww hp q5 hdp JV
       go_wp2_with fail
       go_quiet (first|(refine Calls.quiet_of (hd _ ?_);rfl))
       go_wp2_with (at_builtin;refine Q0p rfl (.tmp 66) (.tmp 73) 54 rfl w _ 152 i0 _ 1 4 Tryz.underlying54 (Xo0 HI) (Xo1 HI) (Xo2 HI) (Xe3 HI) rfl (by decide) w.heap.size ((Xo2 HH) _ _) ((Xe3 HH) _ _) ao t co _ rfl ((Xo1 HH) _ _) ⟨(wr.drewN nq).heap.size,0,none⟩ 1 1 [.int .u32 (lo:Int)] rfl rfl (Q39 (wr.drewN nq) #[.int .u32 (lo:Int)] _ _) (Q9z _ _) (t+1) rfl (by omega) (by omega) ?_;intro a3 c3 w3 B9 QL G0 J6;have HO:=Xh2 B9 G0;clear B9 QL G0 J6)
       refine ⟨⟨t+1,a3,c3,rfl,by simp only[Xaz,true_and];omega,by omega,?_,(Xe1 HO)⟩,by simp only[intOf];omega⟩;rw[(Xo0 HH),UP];exact (Xo0 HO)
      ·obtain rfl:m=t:=(by omega);have E0:¬(k:Int)+(m:Int)<(k:Int)+(m:Int):=(by omega);have KT:(shr s (32-s) (A.drop k)).length=m:=(by rw[Qje,Te];omega);rw[UA (by omega)] at I0;have hT:=Q40 ao m co _ wr KT I0.cap.1 I0.cap.2 (Row.rdI I0) (Qn2 (Xo1 H) k s YQ);rw[Qn1 A (Xo1 H) k s (by omega) YQ,(Xo0 H),<-(Xe3 H)] at hT;have HT:=Xh2 hT hb;clear hT hb I0 KT
       go_wp2_with (refine (Xo0 HT).mono ?_;rintro e w1 ⟨n',rfl,XB,hD,rfl⟩;have KY:=Ua hD;clear hD)
       refine ⟨rfl,.tuple #[.slice ao n' n',.bool lb2],by simp[results,go_sem],ao,n',n',lb2,rfl,KY.out,(Xe1 HT)⟩
def Q4a:LN->LN
 |[]=>[]
 |[x]=>[x]
 |x::y::r=>(x+y*4294967296)::Q4a r
theorem Qgb:∀l:LN,val (2^64) (Q4a l)=val (2^32) l
 |[]=>rfl
 |[x]=>by simp[Q4a,val]
 |x::y::r=>by
  have ih:=Qgb r;simp only[Q4a,val,ih];have e:(2:Nat)^64=4294967296*4294967296:=by decide
  rw[e,Tt,show (2:Nat)^32=4294967296 from rfl,UN];omega
theorem Qbu:∀l:LN,Low (2^32) l->Low (2^64) (Q4a l)
 |[],_=>fun x hx=>by cases hx
 |[x],h=>fun y hy=>by
  rw[Q4a,Uy] at hy;subst hy;have:y<4294967296:=h y (by simp)
  show y<18446744073709551616
  omega
 |x::y::r,h=>fun z hz=>by
  have h1:x<4294967296:=h x (by simp);have h2:y<4294967296:=h y (by simp);rcases UF.1 hz with rfl|hz
  ·show x+y*4294967296<18446744073709551616
   omega
  ·exact Qbu r (fun u hu=>h u (by simp[hu])) z hz
theorem Qdp:∀l:LN,Q5n l->Q5n (Q4a l)
 |[],_=>fun x hx=>by cases hx
 |[x],h=>h
 |[x,y],h=>fun z hz=>by
  simp[Q4a] at hz;have:=h y (by simp);omega
 |x::y::u::r,h=>fun z hz=>by
  have h2:Q5n (u::r):=fun a ha=>h a (by rw[List.getLast?_cons_cons,List.getLast?_cons_cons];exact ha);have h3:=Qdp (u::r) h2;refine h3 z ?_;rw[Q4a] at hz;cases hp:Q4a (u::r) with
  |nil=>cases r <;> simp[Q4a] at hp
  |cons p q=>rw[hp,List.getLast?_cons_cons] at hz;exact hz
theorem Qpk (v:Nat):Q4a (dig (2^32) v)=dig (2^64) v:=by
 have h1:=Qjc (B:=2^64) (by decide) (Q4a (dig (2^32) v)) (Qbu _ (Q2c (by decide) v)) (Qdp _ (Qlc (by decide) v));rw[Qgb,Q0x (by decide)] at h1;exact h1.symm
theorem Qgc:∀(l:LN) (j x:Nat),l[2*j]?=some x->(Q4a l)[j]?=some (x+(l[2*j+1]?).getD 0*4294967296)
 |[],j,x,h=>by simp at h
 |[y],0,x,h=>by simp at h;simp[Q4a,h]
 |[y],j+1,x,h=>by simp[Tt] at h
 |y::z::r,0,x,h=>by simp at h;simp[Q4a,h]
 |y::z::r,j+1,x,h=>by
  rw[Tt] at h;have:=Qgc r j x (by simpa using h);simpa[Q4a,Tt] using this
theorem Qgd:∀l:LN,(Q4a l).length=(l.length+1) / 2
 |[]=>rfl
 |[x]=>by simp[Q4a]
 |x::y::r=>by
  have:=Qgd r;simp only[Q4a,Uz,this];omega
theorem Qn4 {l:LN} {j x:Nat} (h:l[2*j]?=some x):(Q4a l).take (j+1)=(Q4a l).take j++[x+(l[2*j+1]?).getD 0*4294967296]:=by
 rw[Tc,Qgc l j x h];rfl
theorem Qge (a:OA) (n c:Nat) (v:Nat) (w:World) (h:Q0n w a n c v) (hn:n<=1000000):
 Calls Tryz.prog 172 #[.slice a n c] w fun e w'=>∃a' n' c',e=.returned (.slice a' n' c')/\WordsIn w' a' n' c' (dig (2^64) v)/\Bw w w':=by
 have hl:=Q2c (B:=2^32) (by decide) v;have hpd:=Qpk v;have QN:=h.len;have hr:=h.rd;obtain ⟨A,hA⟩:∃A,dig (2^32) v=A:=⟨_,rfl⟩;rw[hA] at hl QN hr hpd;rw[<-hpd];subst QN;have ZJ:=Qgd A;have f8:=Qbu A hl;obtain ⟨i0,O1,P1,K1,J1⟩:=Xby Q5o;have HI:=Xh4 O1 P1 K1 J1;have H:=Xh4 hl hr ZJ f8;clear hl hr hA h hpd ZJ f8 O1 P1 K1 J1
 go_enter Tryz.func172,Tryz.ntmps172
 go_wp2_with fail
 go_loopw [3,4] (fun ov iv wr=>∃(j:Nat) (ao:OA) (co:Nat),ov=.slice ao j co/\iv=.int .i64 (2*(j:Int))/\2*j<=A.length+1/\Row wr w.heap.size 74 1 ao j co (((Q4a A).take j).map (nv .u64))/\Bw w wr) (fun _ iv _=>A.length+2-(intOf iv).toNat)
 case atStart=>exact ⟨0,none,0,rfl,rfl,by omega,Row.nil_ _ _ _ _,Uf _ _⟩
 case round=>
  obtain ⟨j,ao,co,rfl,rfl,hj,I0,hb⟩:=hrel
  by_cases B0:2*j<A.length
  ·have E0:2*(j:Int)<(A.length:Int):=(by omega);obtain ⟨x,hx⟩:∃x,A[2*j]?=some x:=⟨_,Ub B0⟩;have J3:x<4294967296:=(Xo0 H) x (Ud hx);obtain ⟨g1,o1,N6,B7,E6⟩:=((Xo1 H).below hb).at_ hx;have T6:=Qn4 hx;have V5:∀o,Bw w (wr.alloc o):=fun o=>hb.alloc hb.size o;have R4:∀o,w.heap.size<=(wr.alloc o).heap.size:=fun o=>(V5 o).size;have Ja:∀o,Row (wr.alloc o) w.heap.size 74 1 ao j co (((Q4a A).take j).map (nv .u64)):=fun o=>I0.alloc o;have HB:=Ua hb
   by_cases h2:2*j+1<A.length
   ·have Jb:2*(j:Int)+1<(A.length:Int):=(by omega);obtain ⟨y,hy⟩:∃y,A[2*j+1]?=some y:=⟨_,Ub h2⟩;have JM:y<4294967296:=(Xo0 H) y (Ud hy);obtain ⟨g2,o2,XL,Y6,y9⟩:=((Xo1 H).below hb).at_ hy;subst N6;injection XL with XL;injection XL with e1 e2;subst e1 e2;rw[hy,TY] at T6;have A7:=Qpj x y J3 JM;obtain ⟨yy,Ww⟩:∃yy,y*4294967296=yy:=⟨_,rfl⟩;have hyyI:(y:Int)*4294967296=(yy:Int):=(by omega);have hyyl:yy<18446744073709551616:=(by omega);rw[Ww] at A7 T6;obtain ⟨q,hq⟩:∃q,x+yy=q:=⟨_,rfl⟩;rw[hq] at A7 T6;have Yc:q<18446744073709551616:=(by omega);have HH:=Xh4 T6 Ja V5 R4;clear T6 Ja V5 R4 hb I0 hx hy Ww hq
    go_wp2_with (at_builtin;refine Q0p rfl (.tmp 31) (.tmp 33) 23 rfl w _ 74 i0 _ 1 8 Tryz.underlying23 (Xo0 HI) (Xo1 HI) (Xo2 HI) (Xe3 HI) rfl (by decide) w.heap.size ((Xo2 HH) _) ((Xe3 HH) _) ao j co _ rfl ((Xo1 HH) _) ⟨wr.heap.size,0,none⟩ 1 1 [.int .u64 (q:Int)] rfl rfl (Q39 wr #[.int .u64 (q:Int)] _ _) (Q9z _ _) (j+1) rfl (by omega) (by omega) ?_;intro a3 c3 w3 B9 QL G0 J6;have HO:=Xh2 B9 G0;clear B9 QL G0 J6)
    refine ⟨⟨j+1,a3,c3,rfl,by simp only[Xaz,true_and];omega,by omega,?_,(Xe1 HO)⟩,by simp only[intOf];omega⟩;rw[(Xo0 HH),UP];exact (Xo0 HO)
   ·have Jb:¬2*(j:Int)+1<(A.length:Int):=(by omega);subst N6;rw[Tk (by omega),Option.getD_none,TU,Tu] at T6;have HH:=Xh4 T6 Ja V5 R4;clear T6 Ja V5 R4 hb I0 hx
    go_wp2_with (at_builtin;refine Q0p rfl (.tmp 31) (.tmp 33) 23 rfl w _ 74 i0 _ 1 8 Tryz.underlying23 (Xo0 HI) (Xo1 HI) (Xo2 HI) (Xe3 HI) rfl (by decide) w.heap.size ((Xo2 HH) _) ((Xe3 HH) _) ao j co _ rfl ((Xo1 HH) _) ⟨wr.heap.size,0,none⟩ 1 1 [.int .u64 (x:Int)] rfl rfl (Q39 wr #[.int .u64 (x:Int)] _ _) (Q9z _ _) (j+1) rfl (by omega) (by omega) ?_;intro a3 c3 w3 B9 QL G0 J6;have HO:=Xh2 B9 G0;clear B9 QL G0 J6)
    refine ⟨⟨j+1,a3,c3,rfl,by simp only[Xaz,true_and];omega,by omega,?_,(Xe1 HO)⟩,by simp only[intOf];omega⟩;rw[(Xo0 HH),UP];exact (Xo0 HO)
  ·have E0:¬2*(j:Int)<(A.length:Int):=(by omega);have R0:(Q4a A).length=j:=(by rw[(Xo2 H)];omega);rw[UA (by omega)] at I0;have hW:WordsIn wr ao j co (Q4a A):=⟨R0,I0.cap.1,I0.cap.2,(Xe3 H),Row.rdI I0⟩;have HW:=Xh2 hW hb;clear hW hb I0 R0
   go_wp2_with fail
   go_ret;exact ⟨ao,j,co,rfl,(Xo0 HW),(Xe1 HW)⟩
end Go.Proofs.YtdilmfakkppgpaaGreatDoor
namespace Go.Proofs.YtdilmfakkppgpaaGreatDoor
open Go.RowKit
structure Q02 (w:World) (b:Nat) (v0 v1 v2:Value):Prop where
 c0:w.cell? ⟨b,0,none⟩=some v0
 c1:w.cell? ⟨b,1,none⟩=some v1
 c2:w.cell? ⟨b,2,none⟩=some v2
 f0:w.frozen? ⟨b,0,none⟩=false
 f1:w.frozen? ⟨b,1,none⟩=false
 f2:w.frozen? ⟨b,2,none⟩=false
theorem Q02.new (w:World) (v0 v1 v2:Value) (T:TypeId):Q02 (w.alloc (.cells #[v0,v1,v2] T)) w.heap.size v0 v1 v2:=
 ⟨by rw[Ux _ _ _ _ _ _ (Ul _ _)];rfl,by rw[Ux _ _ _ _ _ _ (Ul _ _)];rfl,by rw[Ux _ _ _ _ _ _ (Ul _ _)];rfl,
   TC _ _ _ _ _ (Ul _ _),TC _ _ _ _ _ (Ul _ _),TC _ _ _ _ _ (Ul _ _)⟩
theorem Q0r (w:World) (o:Obj):w.heap.size<(w.alloc o).heap.size:=by rw[Uo];omega
theorem Q02.step {w w':World} {b B:Nat} {v0 v1 v2:Value} (h:Q02 w b v0 v1 v2) (hb:Below B w w') (hB:b<B):Q02 w' b v0 v1 v2:=
 ⟨(hb.cell (p:=⟨b,0,none⟩) hB).trans h.c0,(hb.cell (p:=⟨b,1,none⟩) hB).trans h.c1,(hb.cell (p:=⟨b,2,none⟩) hB).trans h.c2,(hb.frozen (p:=⟨b,0,none⟩) hB).trans h.f0,(hb.frozen (p:=⟨b,1,none⟩) hB).trans h.f1,(hb.frozen (p:=⟨b,2,none⟩) hB).trans h.f2⟩
theorem Q02.d1 {w:World} {b:Nat} {v0 v1 v2:Value} (h:Q02 w b v0 v1 v2) (u0:Value):(w.setCell ⟨b,0,none⟩ u0).cell? ⟨b,1,none⟩=some v1:=(Uc _ _ _ _ (by simp)).trans h.c1
theorem Q02.d2 {w:World} {b:Nat} {v0 v1 v2:Value} (h:Q02 w b v0 v1 v2) (u0 u1:Value):((w.setCell ⟨b,0,none⟩ u0).setCell ⟨b,1,none⟩ u1).cell? ⟨b,2,none⟩=some v2:=(Uc _ _ _ _ (by simp)).trans ((Uc _ _ _ _ (by simp)).trans h.c2)
theorem Q02.store {w:World} {b:Nat} {v0 v1 v2:Value} (h:Q02 w b v0 v1 v2) (u0 u1 u2:Value):Q02 (((w.setCell ⟨b,0,none⟩ u0).setCell ⟨b,1,none⟩ u1).setCell ⟨b,2,none⟩ u2) b u0 u1 u2:=
 ⟨(Uc _ _ _ _ (by simp)).trans ((Uc _ _ _ _ (by simp)).trans (UE _ _ _ (by rw[h.c0];rfl))),(Uc _ _ _ _ (by simp)).trans (UE _ _ _ (by rw[h.d1];rfl)),UE _ _ _ (by rw[h.d2];rfl),by simp[h.f0],by simp[h.f1],by simp[h.f2]⟩
theorem Q02.below {w w0:World} {b B:Nat} (hb:Below B w0 w) (hB:B<=b) (u0 u1 u2:Value):Below B w0 (((w.setCell ⟨b,0,none⟩ u0).setCell ⟨b,1,none⟩ u1).setCell ⟨b,2,none⟩ u2):=
 ((hb.setCell (p:=⟨b,0,none⟩) hB _).setCell (p:=⟨b,1,none⟩) hB _).setCell (p:=⟨b,2,none⟩) hB _
theorem RdI.store3 {K:IntKind} {w:World} {B b:Nat} {a:OA} {ls:LN} {v0 v1 v2:Value} (h:RdI K w B a ls) (hN:Q02 w b v0 v1 v2) (h0:∀x:Nat,v0≠nv K x) (h1:∀x:Nat,v1≠nv K x) (h2:∀x:Nat,v2≠nv K x) (u0 u1 u2:Value):
 RdI K (((w.setCell ⟨b,0,none⟩ u0).setCell ⟨b,1,none⟩ u1).setCell ⟨b,2,none⟩ u2) B a ls:=by
 rcases h with rfl|⟨g,o,rfl,hg,hc⟩
 ·exact .inl rfl
 ·refine .inr ⟨g,o,rfl,hg,fun j x hx=>?_⟩;have E6:=hc j x hx;have key:∀(i:Nat) (v:Value),w.cell? ⟨b,i,none⟩=some v->(∀x:Nat,v≠nv K x)->(⟨g,o+j,none⟩:Addr)≠⟨b,i,none⟩:=fun i v hv C1 e=>by
   rw[e,hv] at E6;injection E6 with E6;exact C1 x E6
  exact (Uc _ _ _ _ (key 2 v2 hN.c2 h2).symm).trans ((Uc _ _ _ _ (key 1 v1 hN.c1 h1).symm).trans ((Uc _ _ _ _ (key 0 v0 hN.c0 h0).symm).trans E6))
theorem Q18 (w:World) (b:Nat) (u0 u1 u2:Value):w.heap.size<=(((w.setCell ⟨b,0,none⟩ u0).setCell ⟨b,1,none⟩ u1).setCell ⟨b,2,none⟩ u2).heap.size:=(Q02.below (Uf b w) (Ug b) u0 u1 u2).size
theorem Q92 (w:World) (x0 x1 x2 r0 r1 r2:Value) (T1 T3:TypeId):
 ((w.alloc (.cells #[x0,x1,x2] T1)).alloc (.cells #[r0,r1,r2] T3)).heap.size=w.heap.size+2/\Q02 ((w.alloc (.cells #[x0,x1,x2] T1)).alloc (.cells #[r0,r1,r2] T3)) w.heap.size x0 x1 x2/\Q02 ((w.alloc (.cells #[x0,x1,x2] T1)).alloc (.cells #[r0,r1,r2] T3)) (w.heap.size+1) r0 r1 r2/\Bw w ((w.alloc (.cells #[x0,x1,x2] T1)).alloc (.cells #[r0,r1,r2] T3)):=by
 have B2:(w.alloc (.cells #[x0,x1,x2] T1)).heap.size=w.heap.size+1:=Uo _ _;have C0:Bw w (w.alloc (.cells #[x0,x1,x2] T1)):=Ba;have D0:Below (w.alloc (.cells #[x0,x1,x2] T1)).heap.size (w.alloc (.cells #[x0,x1,x2] T1)) ((w.alloc (.cells #[x0,x1,x2] T1)).alloc (.cells #[r0,r1,r2] T3)):=Ba;refine ⟨by rw[Uo,B2],(Q02.new w _ _ _ _).step D0 (Q0r _ _),?_,Below.next0 C0 D0⟩;have h:=Q02.new (w.alloc (.cells #[x0,x1,x2] T1)) r0 r1 r2 T3;rwa[B2] at h
theorem Qgf (w:World) (x0 x1 x2 y0 y1 y2 r0 r1 r2:Value) (T1 T2 T3:TypeId):
 (((w.alloc (.cells #[x0,x1,x2] T1)).alloc (.cells #[y0,y1,y2] T2)).alloc (.cells #[r0,r1,r2] T3)).heap.size=w.heap.size+3/\Q02 (((w.alloc (.cells #[x0,x1,x2] T1)).alloc (.cells #[y0,y1,y2] T2)).alloc (.cells #[r0,r1,r2] T3)) w.heap.size x0 x1 x2/\Q02 (((w.alloc (.cells #[x0,x1,x2] T1)).alloc (.cells #[y0,y1,y2] T2)).alloc (.cells #[r0,r1,r2] T3)) (w.heap.size+1) y0 y1 y2/\
   Q02 (((w.alloc (.cells #[x0,x1,x2] T1)).alloc (.cells #[y0,y1,y2] T2)).alloc (.cells #[r0,r1,r2] T3)) (w.heap.size+2) r0 r1 r2/\Bw w (((w.alloc (.cells #[x0,x1,x2] T1)).alloc (.cells #[y0,y1,y2] T2)).alloc (.cells #[r0,r1,r2] T3)):=by
 obtain ⟨h1,h2,h3,h4⟩:=Q92 w x0 x1 x2 y0 y1 y2 T1 T2;generalize (w.alloc (.cells #[x0,x1,x2] T1)).alloc (.cells #[y0,y1,y2] T2)=W at*;have hb:Bw W (W.alloc (.cells #[r0,r1,r2] T3)):=Ba;have h:=Q02.new W r0 r1 r2 T3;rw[h1] at h;exact ⟨by rw[Uo,h1],h2.step hb (by omega),h3.step hb (by omega),h,Below.next0 h4 hb⟩
end Go.Proofs.YtdilmfakkppgpaaGreatDoor
namespace Go.Proofs.YtdilmfakkppgpaaGreatDoor
open Go.RowKit WordsM
def Q0i (neg:Bool) (exp:Int) (ls:LN):Prop:=
 if ls=[] then neg=false/\exp=0 else (trimL ls).length=ls.length/\ls.length<=64/\ls.headD 0%2=1/\-65536<=exp/\exp<=65536
instance (neg:Bool) (exp:Int) (ls:LN):Decidable (Q0i neg exp ls):=by unfold Q0i;infer_instance
theorem Q2x (neg:Bool) (exp:Int) (a:OA) (n c:Nat) (ls:LN) (w:World) (h:WordsIn w a n c ls) (he: -9223372036854775808<=exp) (V6:exp<=9223372036854775807) (hn:n<=9223372036854775807):
 Calls Tryz.prog 53 #[.agg #[.bool neg,.int .i64 exp,.slice a n c]] w fun e w'=>e=.returned (.bool (decide (Q0i neg exp ls)))/\Bw w w':=by
 have Z2:=h.len;have F2:∀o,Bw w (w.alloc o):=fun o=>Ba
 by_cases h0:n=0
 ·obtain rfl:ls=[]:=UH.1 (by omega);subst h0;cases neg
  ·go_enter Tryz.func53,Tryz.ntmps53
   go_wp2_with fail
   go_ret;refine ⟨?_,F2 _⟩
   show Ending.returned (.bool _)=_
   congr 2
   by_cases h:exp=0 <;> simp[Q0i,h]
  ·go_enter Tryz.func53,Tryz.ntmps53
   go_wp2_with fail
   go_ret;refine ⟨?_,F2 _⟩
   show Ending.returned (.bool _)=_
   congr 2
 ·obtain ⟨x,hx⟩:∃x,ls[0]?=some x:=⟨_,Ub (by omega)⟩;have C1:ls≠[]:=fun e=>by rw[e] at hx;simp at hx
  have J3:x<18446744073709551616:=h.low x (Ud hx);have T8:ls.headD 0=x:=by cases ls with
   |nil=>exact absurd rfl C1
   |cons y r=>simpa using hx
  have h0I:((n:Int)==0)=false:=by rw[Ui];omega
  have W6:bits .and .u64 (x:Int) 1=((x%2:Nat):Int):=by rw[show (1:Int)=((1:Nat):Int) from rfl,u64_and_nat x 1 J3 (by decide),nat_mask1]
  obtain ⟨m,hm⟩:∃m,x%2=m:=⟨_,rfl⟩;rw[hm] at W6;have hr:=fun W (hb:Bw w W)=>Qg5 a n c ls W (h.step hb);have hN:Q0i neg exp ls↔((trimL ls).length=n/\n<=64/\m=1/\-65536<=exp/\exp<=65536):=by
   unfold Q0i;rw[Uq C1,T8,hm,Z2]
  have X5:decide (Q0i neg exp ls)=(decide ((trimL ls).length=n) && (!decide ((64:Int)<n) && ((m:Int)==1 && (decide (-65536<=exp) && decide (exp<=65536))))):=by
   have e64:((64:Int)<(n:Int))↔¬n<=64:=(by omega);have e1:((m:Int)==1)=decide (m=1):=by by_cases h:m=1 <;> simp[h] <;> omega
   rw[e1,Bool.eq_iff_iff];simp only[Xas,Xa3,Bool.not_eq_true',Xak,e64,Nat.not_le,Nat.not_lt];exact hN
  rw[X5];obtain ⟨R,hR⟩:∃R,decide ((trimL ls).length=n)=R:=⟨_,rfl⟩;rw[hR] at hr⊢;have HR:=Ua hr;have HH:=Xh2 h hx;clear hr hR X5 hm T8 C1 hN;have h0n:0<n:=by omega
  clear h0;have B0:w.heap.size<(w.alloc (.cells #[.bool neg,.int .i64 exp,.slice a n c] 41)).heap.size:=(Uv.1 (Ul w _)).1;have Z3:(w.alloc (.cells #[.bool neg,.int .i64 exp,.slice a n c] 41)).cell? ⟨w.heap.size,1,none⟩=some (.int .i64 exp):=by rw[Ux _ _ _ _ _ _ (Ul _ _)];rfl
  have N9:(w.alloc (.cells #[.bool neg,.int .i64 exp,.slice a n c] 41)).cell? ⟨w.heap.size,2,none⟩=some (.slice a n c):=by rw[Ux _ _ _ _ _ _ (Ul _ _)];rfl
  have HK:=Xh3 B0 Z3 N9;clear B0 Z3 N9;cases R
  ·go_enter Tryz.func53,Tryz.ntmps53
   go_wp2_with (refine (HR.out _ (F2 _)).mono ?_;rintro e w1 ⟨rfl,C0⟩;have K0:=Ua C0;clear C0)
   go_ret;exact ⟨rfl,Below.next0 (F2 _) K0.out⟩
  ·obtain ⟨b,o,N6,F3,E6⟩:=(Xo0 HH).rd.at_ (Xe1 HH);subst N6;rw[Tu] at E6
   by_cases h64:(64:Int)<(n:Int)
   ·go_enter Tryz.func53,Tryz.ntmps53
    go_wp2_with (refine (HR.out _ (F2 _)).mono ?_;rintro e w1 ⟨rfl,C0⟩;have N1:=(C0.cell (p:=⟨w.heap.size,1,none⟩) (Xo0 HK)).trans (Xo1 HK);have E1:=(C0.cell (p:=⟨w.heap.size,2,none⟩) (Xo0 HK)).trans (Xe2 HK);have K0:=Ua C0;clear C0)
    all_goals
     go_ret;refine ⟨?_,Below.next0 (F2 _) K0.out⟩
     show Ending.returned (.bool _)=Ending.returned (.bool _)
     clear HH HK HR K0 N1 E1 E6 h
     congr 2
    all_goals simp_all
    all_goals omega
   ·go_enter Tryz.func53,Tryz.ntmps53
    go_wp2_with (refine (HR.out _ (F2 _)).mono ?_;rintro e w1 ⟨rfl,C0⟩;have N1:=(C0.cell (p:=⟨w.heap.size,1,none⟩) (Xo0 HK)).trans (Xo1 HK);have E1:=(C0.cell (p:=⟨w.heap.size,2,none⟩) (Xo0 HK)).trans (Xe2 HK);have hcx1:=(Below.next0 (F2 _) C0).cell (p:=⟨b,o,none⟩) F3 |>.trans E6;have K0:=Ua C0;clear C0)
    all_goals
     go_ret;refine ⟨?_,Below.next0 (F2 _) K0.out⟩
     show Ending.returned (.bool _)=Ending.returned (.bool _)
     clear HH HK HR K0 N1 E1 E6 h
     congr 2
    all_goals simp_all
    all_goals omega
end Go.Proofs.YtdilmfakkppgpaaGreatDoor
