/- Part 4. No condition. -/
import Derived.Test.YtidojbkhlenahaaGreatDoorPkProblemRights03
set_option maxRecDepth 100000
set_option maxHeartbeats 16000000
namespace Go.Proofs.YtidojbkhlenahaaGreatDoor
open Go.RowKit WordsM
theorem Qqe (l:LN):NatM.val l=val (2^32) l:=by
 induction l with
 |nil=>rfl
 |cons x r ih=>simp only[NatM.val,val,ih]
theorem Qbk (l:LN):NatM.trimL l=trimL l:=by
 induction h:l.length generalizing l with
 |zero=>obtain rfl:=UH.1 h;rfl
 |succ n ih=>
  rcases List.eq_nil_or_concat l with rfl|⟨r,x,rfl⟩
  ·simp at h
  ·rw[List.concat_eq_append] at h⊢
   by_cases h0:x=0
   ·subst h0;rw[NatM.trim_snoc_zero,Q3r];exact ih r (by simpa using h)
   ·rw[NatM.trim_snoc x h0,Q63 r h0]
structure Q0x (w:World) (a:OA) (n c:Nat) (v:Nat):Prop where
 len:(dig (2^32) v).length=n
 cap:n<=c
 most:c<=9223372036854775807
 rd:RdI .u32 w w.heap.size a (dig (2^32) v)
theorem Q0x.step {w w':World} {a:OA} {n c v:Nat} (h:Q0x w a n c v) (hb:Bw w w'):Q0x w' a n c v:=⟨h.len,h.cap,h.most,h.rd.step hb⟩
theorem Q54 (a:OA) (n c:Nat) (ls:LN) (w:World) (hn:ls.length=n) (hc:n<=c) (R6:c<=9223372036854775807) (h:RdI .u32 w w.heap.size a ls) (hl:Low (2^32) ls):
 Calls Tryz.prog 114 #[.slice a n c] w fun e w'=>∃n',e=.returned (.slice a n' n')/\n'<=n/\Q0x w' a n' n' (val (2^32) ls)/\w=w':=by
 refine (Q8h a n c ls w hn hc R6 h).mono ?_;rintro e w' ⟨rfl,rfl⟩;have h1:NatM.trimL ls=dig (2^32) (val (2^32) ls):=by rw[Qbk,Q1m (by decide) hl]
 have h2:=trim_len ls;rw[<-Qbk,h1,hn] at h2;rw[h1];refine ⟨_,rfl,h2,⟨rfl,Uf _,by omega,?_⟩,rfl⟩;rw[<-h1,Qbk,<-Q3d ls];exact h.front _
theorem Qbl {B:Nat} (hB:0<B) {l:LN} (h:Low B l) (i:Nat):l[i]?.getD 0<B:=by
 cases hx:l[i]? with
 |none=>exact hB
 |some x=>exact h x (Ug hx)
theorem Q5s {B:Nat} (l:LN) (i:Nat):val B (l.take (i+1))=val B (l.take i)+B^i*l[i]?.getD 0:=by
 cases hx:l[i]? with
 |none=>
  have h:l.length<=i:=List.getElem?_eq_none_iff.1 hx;rw[Uz (by omega),Uz h];simp
 |some x=>exact Q1e l i x hx
theorem Q7f (a:OA) (n c:Nat) (ls:LN) (i:Nat) (w:World) {B:Nat} (hn:ls.length=n) (h:RdI .u32 w B a ls) (hl:Low (2^32) ls):
 Calls Tryz.prog 193 #[.slice a n c,.int .i64 (i:Int)] w fun e w'=>e=.returned (.int .u64 ((ls[i]?.getD 0:Nat):Int))/\w=w':=by
 by_cases E0:i<n
 ·obtain ⟨x,hx⟩:∃x,ls[i]?=some x:=⟨_,Ub (by omega)⟩;have N4:x<4294967296:=hl x (Ug hx);have F0:(i:Int)<(n:Int):=by omega
  obtain ⟨b,o,rfl,V5,G1⟩:=h.at_ hx;rw[hx,Xaw];clear hx h hl
  go_enter Tryz.func193,Tryz.ntmps193
  go_wp2_with fail
  go_ret;exact ⟨rfl,rfl⟩
 ·have F0:¬(i:Int)<(n:Int):=by omega
  rw[UU (by omega),Option.getD_none];clear h hl
  go_enter Tryz.func193,Tryz.ntmps193
  go_wp2_with fail
  go_ret;exact ⟨rfl,rfl⟩
theorem Qub {B:Nat} {A K L:LN} {i cr s:Nat} (hL:L.length=i) (hs:A[i]?.getD 0+K[i]?.getD 0+cr=s) (h:val B L+cr*B^i=val B (A.take i)+val B (K.take i)):
 val B (L++[s%B])+s / B*B^(i+1)=val B (A.take (i+1))+val B (K.take (i+1)):=by
 have h2:(s%B+B*(s / B))*B^i=s*B^i:=by rw[Nat.mod_add_div]
 rw[Tl] at h2;rw[Q8x,hL,Q5s,Q5s,UA (B^i) (s%B),UA (B^i),UA (B^i),Tg,UA (B^i) B,<-UM,UA (s / B) B];have h3:(A[i]?.getD 0+K[i]?.getD 0+cr)*B^i=s*B^i:=by rw[hs]
 rw[Tl,Tl] at h3;omega
theorem Qfz (K:IntKind) (x:Int):∀u∈[Value.int K x],u.oneCell'=true:=by
 intro u hu;rw[UC] at hu;subst hu;rfl
theorem Qg0 {B:Nat} {l:LN} (h:Low B l) {x:Nat} (hx:x<B):Low B (l++[x]):=fun y hy=>by
 rcases Tp.1 hy with h1|h1
 ·exact h y h1
 ·rw[UC] at h1;subst h1;exact hx
theorem Row.rdI {k:IntKind} {w:World} {B:Nat} {e:TypeId} {a:OA} {n c:Nat} {ms:LN} (h:Row w B e 1 a n c (ms.map (nv k))):RdI k w w.heap.size a ms:=(Row.rdN (k:=k) (ms:=ms) h).rdI
theorem Qnr (a:OA) (n c:Nat) (v:Nat) (b:OA) (m d:Nat) (u:Nat) (w:World) (h1:Q0x w a n c v) (h2:Q0x w b m d u) (hn:n<=100000) (hm:m<=100000):
 Calls Tryz.prog 138 #[.slice a n c,.slice b m d] w fun e w'=>∃a' n',e=.returned (.slice a' n' n')/\Q0x w' a' n' n' (v+u)/\Bw w w':=by
 have Qf:val (2^32) (dig (2^32) v)=v:=Q0s (by decide) v;have Qm:val (2^32) (dig (2^32) u)=u:=Q0s (by decide) u;have Jb:=Q2i (B:=2^32) (by decide) v;have JO:=Q2i (B:=2^32) (by decide) u;have E7:=h1.len;have Jh:=h2.len;have M1:=h1.rd;have X0:=h2.rd;obtain ⟨A,hA⟩:∃A,dig (2^32) v=A:=⟨_,rfl⟩;obtain ⟨K,hK⟩:∃K,dig (2^32) u=K:=⟨_,rfl⟩;rw[hA] at Qf Jb E7 M1;rw[hK] at Qm JO Jh X0;obtain ⟨i0,O2,E2,I2,X1⟩:=Xbq Q6r;have HI:=Xh4 O2 E2 I2 X1;have H:=Xh6 Qf Qm Jb JO M1 X0;have hdg1:=fun (i:Nat) W (hb:Bw w W)=>Q7f a n c A i W E7 (M1.below hb) Jb;have KK:=fun (i:Nat) W (hb:Bw w W)=>Q7f b m d K i W Jh (X0.below hb) JO;have HD:=Xh2 hdg1 KK;clear Qf Qm Jb JO M1 X0 hA hK h1 h2 hdg1 KK O2 E2 I2 X1;obtain ⟨M,hM,hMn,hMm,hM3⟩:∃M,M=max n m/\n<=M/\m<=M/\M<=100000:=⟨max n m,rfl,by omega,by omega,by omega⟩
 go_enter Tryz.func138,Tryz.ntmps138
 go_wp2_with fail
 go_loopw [5,6,7] (fun ov cv iv wr=>∃(i cr:Nat) (L:LN) (ao:OA) (co:Nat),ov=.slice ao i co/\cv=.int .u64 (cr:Int)/\iv=.int .i64 (i:Int)/\cr<=1/\(i<=M∨i=M+1/\cr=0)/\Row wr w.heap.size 150 1 ao i co (L.map (nv .u32))/\L.length=i/\Low (2^32) L/\val (2^32) L+cr*(2^32)^i=val (2^32) (A.take i)+val (2^32) (K.take i)/\Bw w wr) (fun _ _ iv _=>M+2-(intOf iv).toNat)
 case atStart=>exact ⟨0,0,[],none,0,rfl,rfl,rfl,by decide,.inl (Ut _),Row.nil_ _ _ _ _,rfl,fun x hx=>by simp at hx,by simp[val],Uc _ _⟩
 case round=>
  obtain ⟨i,cr,L,ao,co,rfl,rfl,rfl,QI,hiM,A1,M4,Q0,J0,hb⟩:=hrel
  by_cases S3:n<=i/\m<=i/\cr=0
  ·obtain ⟨e1,e2,rfl⟩:=S3;rw[Uz (by omega),Uz (by omega),(Xo0 H),(Xo1 H),Xaq,TD] at J0;have hT:=Q54 ao i co L wr M4 A1.cap.1 A1.cap.2 (Row.rdI A1) Q0;rw[J0] at hT;have HT:=Xh2 hT hb;have l1:¬(i:Int)<(n:Int):=(by omega);have l2:¬(i:Int)<(m:Int):=(by omega);clear hT hb J0 Q0 A1 hiM
   go_wp2_with (refine (Xo0 HT).mono ?_;rintro e w1 ⟨n',rfl,ZF,hD,rfl⟩;have Kl:=Ua hD;clear hD)
   go_ret;exact ⟨ao,n',rfl,Kl.out,(Xe1 HT)⟩
  ·have hiM':i<=M:=(by omega);have C2:=(Xo0 HD) i wr hb;have A2:=(Xe1 HD) i wr hb;have N4:A[i]?.getD 0<4294967296:=Qbl (by decide) (Xo2 H) i;have B9:K[i]?.getD 0<4294967296:=Qbl (by decide) (Xo3 H) i;have Y0:=Qub (B:=2^32) (s:=A[i]?.getD 0+K[i]?.getD 0+cr) M4 rfl J0;have X2:i=M->A[i]?.getD 0=0/\K[i]?.getD 0=0:=fun e=>⟨by rw[UU (by omega)];rfl,by rw[UU (by omega)];rfl⟩;generalize A[i]?.getD 0=x at*;generalize K[i]?.getD 0=y at*;obtain ⟨s,hs⟩:∃s,x+y+cr=s:=⟨_,rfl⟩;have hsI:(cr:Int)+((x:Int)+(y:Int))=(s:Int):=(by omega);have Ql:s<18446744073709551616:=(by omega);have p5:=Qqb s Ql;rw[hs] at Y0;obtain ⟨lo,Z4⟩:∃lo,s%4294967296=lo:=⟨_,rfl⟩;obtain ⟨hi,QV⟩:∃hi,s / 4294967296=hi:=⟨_,rfl⟩;rw[show s%2^32=lo from Z4,show s / 2^32=hi from QV] at Y0;have hhiI:(s:Int) / 4294967296=(hi:Int):=(by omega);have QH:lo<4294967296:=(by omega);have B7:hi<=1:=(by omega);have hiM2:i+1<=M∨i+1=M+1/\hi=0:=by
    rcases Nat.lt_or_ge i M with h|h
    ·exact .inl h
    ·have:=X2 (by omega);exact .inr (by omega)
   rw[Z4] at p5;have hbs:=hb.size;have P3:∀o,Bw w (wr.alloc o):=fun o=>hb.alloc hb.size o;have G3:∀o,w.heap.size<=(wr.alloc o).heap.size:=fun o=>(P3 o).size;have Jn:∀o,Row (wr.alloc o) w.heap.size 150 1 ao i co (L.map (nv .u32)):=fun o=>A1.alloc o;have HH:=Xh6 Y0 Jn P3 G3 Q0 hiM2;have key:(i:Int)<(n:Int)∨(¬(i:Int)<(n:Int)/\(i:Int)<(m:Int))∨(¬(i:Int)<(n:Int)/\¬(i:Int)<(m:Int)/\(0:Int)<(cr:Int)):=(by omega);clear Y0 Jn P3 G3 Q0 hiM2 hb A1 X2 J0 hs Z4 QV hiM S3 N4 B9;rcases key with l1|⟨l1,l2⟩|⟨l1,l2,l3⟩
   all_goals
    go_wp2_with (first
     |(go_at_call_of 193 a;refine C2.mono ?_;rintro e w1 ⟨rfl,rfl⟩)
     |(go_at_call_of 193 b;refine A2.mono ?_;rintro e w1 ⟨rfl,rfl⟩)
     |(at_builtin;refine Q0t rfl (.tmp 33) (.tmp 37) 85 rfl w _ 150 i0 _ 1 4 Tryz.underlying85 (Xo0 HI) (Xo1 HI) (Xo2 HI) (Xe3 HI) rfl (by decide) w.heap.size ((Xo2 HH) _) ((Xo3 HH) _) ao i co _ rfl ((Xo1 HH) _) ⟨wr.heap.size,0,none⟩ 1 1 [.int .u32 (lo:Int)] rfl rfl (Q4f wr #[.int .u32 (lo:Int)] _ _) (Qfz _ _) (i+1) rfl (by omega) (by omega) ?_;intro a3 c3 w3 S8 Qa I0 J6;have HO:=Xh2 S8 I0;clear S8 Qa I0 J6))
    refine ⟨⟨i+1,hi,L++[lo],a3,c3,rfl,rfl,by simp,B7,(Xe5 HH),?_,by simp[M4],Qg0 (Xo4 HH) QH,(Xo0 HH),(Xe1 HO)⟩,by simp only[intOf];omega⟩;rw[UZ];exact (Xo0 HO)
theorem Qhi {B:Nat} {A K:LN} {i x S:Nat} (hx:A[i]?=some x) (h:S=val B (A.take i)*val B K+x*B^i*val B K):S=val B (A.take (i+1))*val B K:=by
 rw[Q1e A i x hx,h,Tl,UA x]
theorem Qhj {B V:Nat} {K:LN} {i j x y:Nat} (hy:K[j]?=some y):V+x*B^i*val B (K.take j)+x*y*B^(i+j)=V+x*B^i*val B (K.take (j+1)):=by
 rw[Q1e K j y hy,TE,Tw,Nat.add_assoc]
 congr 2
 rw[UM x (B^i),<-UM (B^i) (B^j) y,UA (B^i*B^j) y];simp only[UM]
theorem Qqf {T:TypeId} {K:IntKind} {w:World} {g:Nat} {ls:LN} (h:Arr T K w g ls) (k:Nat):Arr T K (w.drewN k) g ls:=h
theorem Q16 {B:Nat} {a w:World} (h:Below B a w) (k:Nat):Below B a (w.drewN k):=⟨h.os,h.tape,h.output,h.size,h.block⟩
theorem Qns (a:OA) (n c:Nat) (v:Nat) (b:OA) (m d:Nat) (u:Nat) (w:World) (h1:Q0x w a n c v) (h2:Q0x w b m d u) (hn:n<=100000) (hm:m<=100000):
 Calls Tryz.prog 139 #[.slice a n c,.slice b m d] w fun e w'=>∃a' n',e=.returned (.slice a' n' n')/\Q0x w' a' n' n' (v*u)/\Bw w w':=by
 have Qf:val (2^32) (dig (2^32) v)=v:=Q0s (by decide) v;have Qm:val (2^32) (dig (2^32) u)=u:=Q0s (by decide) u;have Jb:=Q2i (B:=2^32) (by decide) v;have JO:=Q2i (B:=2^32) (by decide) u;have E7:=h1.len;have Jh:=h2.len;have M1:=h1.rd;have X0:=h2.rd;obtain ⟨A,hA⟩:∃A,dig (2^32) v=A:=⟨_,rfl⟩;obtain ⟨K,hK⟩:∃K,dig (2^32) u=K:=⟨_,rfl⟩;rw[hA] at Qf Jb E7 M1;rw[hK] at Qm JO Jh X0;subst E7;subst Jh;have H:=Xh4 Qf Qm Jb JO;have HR:=Xh2 M1 X0;clear Qf Qm Jb JO M1 X0 hA hK h1 h2;have m5:=Xa7 (P:=Tryz.prog) 85 150 (.int .u32 0) 4 Tryz.underlying85 Q6r rfl .i64 .i64 (A.length+K.length) (by omega) (by omega);rw[show ((A.length+K.length:Nat):Int)=(A.length:Int)+(K.length:Int) by omega,Q2j] at m5
 go_enter Tryz.func139,Tryz.ntmps139
 go_wp2_with fail
 have Z2:Bw w (w.alloc (.cells (Array.replicate (A.length+K.length) (nv .u32 0)) 150)):=Ba;have j8:=Arr.zeros w 150 .u32 (A.length+K.length);have H0:=Xh2 Z2 j8;clear Z2 j8 m5
 go_loopw [6] (fun iv wr=>∃(i:Nat) (L:LN),iv=.int .i64 (i:Int)/\i<=A.length/\Arr 150 .u32 wr w.heap.size L/\L.length=A.length+K.length/\Low (2^32) L/\val (2^32) L=val (2^32) (A.take i)*val (2^32) K/\(∀t,i+K.length<=t->t<A.length+K.length->L[t]?=some 0)/\Bw w wr) (fun iv _=>A.length-(intOf iv).toNat)
 case atStart=>
  refine ⟨0,List.replicate (A.length+K.length) 0,rfl,Ut _,(Xe1 H0),by simp,fun x hx=>?_,by rw[Q7b];simp[val],fun t _ ht=>?_,(Xo0 H0)⟩
  ·rw[TV hx];decide
  ·rw[TK];simp[ht]
 case round=>
  obtain ⟨i,L,rfl,hi,hL,M4,Q0,J0,X3,N0⟩:=hrel
  by_cases E0:i<A.length
  ·have F0:(i:Int)<(A.length:Int):=(by omega);obtain ⟨x,hx⟩:∃x,A[i]?=some x:=⟨_,Ub E0⟩;obtain ⟨ba,oa,E5,P3,Y3⟩:=((Xo0 HR).below N0).at_ hx;have N4:x<4294967296:=(Xo2 H) x (Ug hx);subst E5;have HH:=Xh6 hL Q0 J0 N0 hx X3;clear hL Q0 J0 N0 X3 hx Y3
   go_wp2_with fail
   go_loopw [7,8] (fun cv jv wr=>∃(j cr:Nat) (L:LN),cv=.int .u64 (cr:Int)/\jv=.int .i64 (j:Int)/\j<=K.length/\cr<4294967296/\Arr 150 .u32 wr w.heap.size L/\L.length=A.length+K.length/\Low (2^32) L/\val (2^32) L+cr*(2^32)^(i+j)=val (2^32) (A.take i)*val (2^32) K+x*(2^32)^i*val (2^32) (K.take j)/\(∀t,i+K.length<=t->t<A.length+K.length->L[t]?=some 0)/\Bw w wr) (fun _ jv _=>K.length-(intOf jv).toNat)
   case atStart=>exact ⟨0,0,L,rfl,rfl,Ut _,by decide,(Xo0 HH),M4,(Xo1 HH),by rw[(Xo2 HH)];simp[val],(Xe5 HH),(Xo3 HH)⟩
   case round=>
    have HX:=Ua (Xo4 HH);clear M4 HH;obtain ⟨j,cr,L,rfl,rfl,hj,QI,hL,M4,Q0,J0,X3,N0⟩:=hrel
    by_cases hlj:j<K.length
    ·have hlj':(j:Int)<(K.length:Int):=(by omega);obtain ⟨y,hy⟩:∃y,K[j]?=some y:=⟨_,Ub hlj⟩;obtain ⟨z,hz⟩:∃z,L[i+j]?=some z:=⟨_,Ub (by omega)⟩;obtain ⟨bb,ob,I8,Y2,K9⟩:=((Xe1 HR).below N0).at_ hy;obtain ⟨ba',oa',Yr,hba',Y3⟩:=((Xo0 HR).below N0).at_ HX.out;injection Yr with Yr;injection Yr with e1 e2;subst e1 e2;have B9:y<4294967296:=(Xe3 H) y (Ug hy);have E9:z<4294967296:=Q0 z (Ug hz);subst I8;have D6:=(Qm3 (B:=4294967296) (by decide) N4 B9 E9 QI).2.2;have Y0:=Qbj (B:=2^32) (b:=x*y) (c:=cr) hz J0;rw[Qhj hy] at Y0;have hp:x*y<=4294967295*4294967295:=Nat.mul_le_mul (by omega) (by omega);obtain ⟨p,hpp⟩:∃p,x*y=p:=⟨_,rfl⟩;have hpI:(x:Int)*(y:Int)=(p:Int):=(by rw[<-hpp];norm_cast);rw[hpp] at hp Y0 D6;obtain ⟨s,hs⟩:∃s,z+p+cr=s:=⟨_,rfl⟩;have hsI:(cr:Int)+((p:Int)+(z:Int))=(s:Int):=(by omega);have Ql:s<18446744073709551616:=(by omega);have x7:(p:Int)+(z:Int)<18446744073709551616:=(by omega);have hpl2:(p:Int)<18446744073709551616:=(by omega);rw[hs] at Y0 D6;have p5:=Qqb s Ql;obtain ⟨lo,Z4⟩:∃lo,s%4294967296=lo:=⟨_,rfl⟩;obtain ⟨g9,QV⟩:∃hi,s / 4294967296=hi:=⟨_,rfl⟩;rw[show s%2^32=lo from Z4,show s / 2^32=g9 from QV] at Y0;rw[Z4] at p5;rw[QV] at D6;have hhiI:(s:Int) / 4294967296=(g9:Int):=(by omega);have QH:lo<4294967296:=(by omega);have Wk:wr.cell? ⟨w.heap.size,i+j,none⟩=some (.int .u32 (z:Int)):=hL.cell hz;have Wj:wr.frozen? ⟨w.heap.size,i+j,none⟩=false:=hL.frozen _;have XG:(i:Int)+(j:Int)<(A.length:Int)+(K.length:Int):=(by omega);have HH:=Xh5 Y0 hL Q0 N0 X3;clear Y0 hL Q0 J0 N0 X3 hs Z4 QV hpp hy hz
     go_wp2_with fail
     go_quiet (fail)
     go_wp2_with fail
     refine ⟨⟨j+1,g9,L.set (i+j) lo,by simp,by simp,by omega,D6,(Qqf (Xo1 HH) nq).set (i+j) lo,by simp[M4],Q42 (Xo2 HH) QH,(Xo0 HH),fun t I3 F2=>?_,(Q16 (Xo3 HH) nq).setCell (p:=⟨w.heap.size,i+j,none⟩) (Uf _) _⟩,by simp only[intOf];omega⟩;rw[Th (by omega)];exact (Xe4 HH) t I3 F2
    ·obtain rfl:j=K.length:=(by omega);have hlj':¬((K.length:Int)<(K.length:Int)):=(by omega);have E2:=X3 (i+K.length) (Uf _) (by omega);have Wk:wr.cell? ⟨w.heap.size,i+K.length,none⟩=some (.int .u32 0):=hL.cell E2;have Wj:wr.frozen? ⟨w.heap.size,i+K.length,none⟩=false:=hL.frozen _;have XG:(i:Int)+(K.length:Int)<(A.length:Int)+(K.length:Int):=(by omega);have K2:=Qa1 (B:=2^32) L (i+K.length) cr 0 E2;rw[Xaq,TD,J0,Ti] at K2;have hvo:=Qhi HX.out K2;have HH:=Xh5 hvo hL Q0 N0 X3;clear K2 hvo J0 hL Q0 N0 X3 E2
     go_wp2_with fail
     refine ⟨⟨i+1,L.set (i+K.length) cr,by simp,by omega,(Xo1 HH).set _ cr,by simp[M4],Q42 (Xo2 HH) QI,(Xo0 HH),fun t I3 F2=>?_,(Xo3 HH).setCell (p:=⟨w.heap.size,i+K.length,none⟩) (Uf _) _⟩,by simp only[intOf];omega⟩;rw[Th (by omega)];exact (Xe4 HH) t (by omega) F2
  ·obtain rfl:i=A.length:=(by omega);have F0:¬((A.length:Int)<(A.length:Int)):=(by omega);rw[Ti,(Xo0 H),(Xo1 H)] at J0;have hT:=Q54 (some ⟨w.heap.size,0,none⟩) (A.length+K.length) (A.length+K.length) L wr M4 (Uf _) (by omega) hL.rd Q0;rw[J0] at hT;have HE:=Xh2 hT N0;clear hT N0 J0 hL Q0 X3
   go_wp2_with (refine (Xo0 HE).mono ?_;rintro e w1 ⟨n',rfl,ZF,hD,rfl⟩;have Kl:=Ua hD;clear hD)
   go_ret;exact ⟨_,n',rfl,Kl.out,(Xe1 HE)⟩
theorem Qww {ls:LN} {i x k m:Nat} (h0:val (2^32) (ls.take i)=0) (hx:ls[i]?=some x) (he:x=2^k*(2*m+1)) (hk:k<32):Qwb (val (2^32) ls) (32*i+k):=by
 have hi:i<ls.length:=(Ui.1 hx).1;have YM:ls[i]=x:=(Ui.1 hx).2;have h1:=Q3s (B:=2^32) ls i;rw[h0,UV,UB hi,YM] at h1;simp only[val] at h1;obtain ⟨V,hV⟩:∃V,val (2^32) (ls.drop (i+1))=V:=⟨_,rfl⟩;rw[hV] at h1;obtain ⟨t,ht⟩:∃t,32=k+(t+1):=⟨31-k,by omega⟩;have e1:x+2^32*V=2^k*(2*(m+2^t*V)+1):=by
  rw[he,show (2:Nat)^32=2^k*(2^t*2) by rw[<-Tg,<-Tw,<-ht],UM,<-TE]
  congr 1
  rw[UA (2^t) 2,UM,TE];omega
 rw[e1,<-Xab,<-UM,<-Tw] at h1;rw[h1];have hp:0<2^(32*i+k):=Tv (by decide);exact ⟨Nat.mul_mod_right _ _,by rw[Nat.mul_div_cancel_left _ hp];omega⟩
theorem Quc (q:Nat) (h:q<4294967296):bits BinOp.and IntKind.u32 (q:Int) 1=((q%2:Nat):Int):=
 bits_mask .u32 32 (by decide) (fun n h0 h1=>by rw[IntKind.wrap_u32];omega) 1 (by decide) (q:Int) (by omega) (by omega)
theorem Qhk (a:OA) (n c:Nat) (v:Nat) (w:World) (h:Q0x w a n c v) (hn:n<=1000000) (h0:v≠0):
 Calls Tryz.prog 166 #[.slice a n c] w fun e w'=>(∃z:Nat,e=.returned (.int .i64 (z:Int))/\Qwb v z/\z<32*n)/\Bw w w':=by
 have hv:val (2^32) (dig (2^32) v)=v:=Q0s (by decide) v;have hl:=Q2i (B:=2^32) (by decide) v;have E7:=h.len;have hr:=h.rd;obtain ⟨A,hA⟩:∃A,dig (2^32) v=A:=⟨_,rfl⟩;rw[hA] at hv hl E7 hr;have H:=Xh4 hv hl hr h0;clear hv hl hr hA h h0
 go_enter Tryz.func166,Tryz.ntmps166
 go_wp2_with fail
 go_loopw [3,4] (fun nv iv wr=>∃i:Nat,nv=.int .i64 (32*(i:Int))/\iv=.int .i64 (i:Int)/\i<=n/\val (2^32) (A.take i)=0/\Bw w wr) (fun _ iv _=>n-(intOf iv).toNat)
 case atStart=>exact ⟨0,rfl,rfl,Ut _,by simp[val],Uc _ _⟩
 case round=>
  obtain ⟨i,rfl,rfl,hi,hz,hb⟩:=hrel
  by_cases E0:i<n
  ·have F0:(i:Int)<(n:Int):=(by omega);obtain ⟨x,hx⟩:∃x,A[i]?=some x:=⟨_,Ub (by omega)⟩;have N4:x<4294967296:=(Xo1 H) x (Ug hx);obtain ⟨g1,o1,E5,W8,Y3⟩:=((Xo2 H).below hb).at_ hx;subst E5;have HH:=Xh3 hz hb hx;clear hz hb hx
   by_cases O4:x=0
   ·subst O4
    go_wp2_with fail
    refine ⟨⟨i+1,by simp only[Value.int.injEq,true_and];omega,by simp,by omega,?_,(Xo1 HH)⟩,by simp only[intOf];omega⟩;rw[Q1e A i 0 (Xe2 HH),(Xo0 HH),Nat.mul_zero]
   ·have hx0':((x:Int)==0)=false:=by rw[Uj];omega
    go_wp2_with fail
    go_loopw [3,5] (fun nv xv wq=>∃k q:Nat,nv=.int .i64 (32*(i:Int)+(k:Int))/\xv=.int .u32 (q:Int)/\q≠0/\q<4294967296/\x=2^k*q/\k<32/\wq=wr) (fun _ xv _=>(intOf xv).toNat)
    case atStart=>exact ⟨0,x,by simp,rfl,O4,N4,by simp,by decide,rfl⟩
    case round=>
     obtain ⟨k,q,rfl,rfl,C9,Vo,hxq,hk,rfl⟩:=hrel;have p5:=Quc q Vo
     by_cases KF:q%2=1
     ·rw[KF] at p5;have WW:=Qww (Xo0 HH) (Xe2 HH) (m:=q / 2) (k:=k) (by rw[hxq];congr 1;omega) hk;rw[(Xo0 H)] at WW;have HT:=Ua WW;clear WW hxq KF
      go_wp2_with fail
      go_ret;exact ⟨⟨32*i+k,by simp,HT.out,by omega⟩,(Xo1 HH)⟩
     ·have he:q%2=0:=(by omega);rw[he] at p5;obtain ⟨p,hp⟩:∃p,q=2*p:=⟨q / 2,by omega⟩;have hpI:(q:Int) / 2=(p:Int):=(by omega);have Z6:k+1<32:=by
       rcases Nat.lt_or_ge (k+1) 32 with h|h
       ·exact h
       ·exfalso;obtain rfl:k=31:=(by omega);rw[hp,show (2:Nat)^31=2147483648 from rfl] at hxq;omega
      have hxp:x=2^(k+1)*p:=(by rw[hxq,hp,Tg,UM]);have HX:=Xh2 hxp hp;clear hxp hxq KF he hp
      go_wp2_with fail
      refine ⟨⟨k+1,p,?_,rfl,?_,?_,(Xo0 HX),Z6,trivial⟩,?_⟩
      ·simp only[Value.int.injEq,true_and];omega
      ·have:=(Xe1 HX);omega
      ·have:=(Xe1 HX);omega
      ·simp only[intOf];have:=(Xe1 HX);omega
  ·exfalso;rw[Uz (by omega),(Xo0 H)] at hz;exact (Xe3 H) hz
theorem Qqg {x y s:Nat} (hx:x<2^32) (hs:s<32):(x+y*2^32) / 2^s%2^32=x / 2^s+(y*2^(32-s))%2^32:=by
 have hp:(2:Nat)^32=2^s*2^(32-s):=by rw[<-Tw];congr 1;omega
 have h1:=Qq8 (s:=s) (t:=32-s) (x:=x) (y:=y) (by rw[show s+(32-s)=32 by omega];exact hx);rw[show s+(32-s)=32 by omega] at h1;have e1:(x+y*2^32) / 2^s=x / 2^s+y*2^(32-s):=by
  rw[hp,<-UM,UA y,UM,Xbh _ _ (Tv (by decide))]
 rw[e1,Nat.add_mod,Xaj (a:=x / 2^s) (TQ (Xbn _ _) hx),Xaj h1]
theorem Qnt (A:LN) (hA:Low (2^32) A) (k s:Nat) (hk:k<=A.length) (hs:s<32):val (2^32) (shr s (32-s) (A.drop k))=val (2^32) A / 2^(32*k+s):=by
 have h1:=Qk6 s (32-s) (A.drop k);rw[show s+(32-s)=32 by omega] at h1;rw[h1,Qm4 (Tv (by decide)) A hA k hk,Nat.div_div_eq_div_mul,<-Xab,<-Tw]
theorem Qnu {A:LN} (hA:Low (2^32) A) (k s:Nat) (hs:s<32):Low (2^32) (shr s (32-s) (A.drop k)):=by
 have h:=Qk8 (s:=s) (t:=32-s) (l:=A.drop k) (by rw[show s+(32-s)=32 by omega];exact fun x hx=>hA x (List.mem_of_mem_drop hx));rwa[show s+(32-s)=32 by omega] at h
theorem Qnv {A:LN} (hA:Low (2^32) A) {k s:Nat} (hk:A.length<=k):val (2^32) A / 2^(32*k+s)=0:=by
 apply Xap
 have h1:=Q2y (B:=2^32) (Tv (by decide)) A hA;rw[<-Xab] at h1;exact Ue h1 (UL (by decide) (by omega))
theorem Qwx (x y:Nat) (hx:x<4294967296) (hy:y<4294967296):bits BinOp.or IntKind.u64 (x:Int) ((y*4294967296:Nat):Int)=((x+y*4294967296:Nat):Int):=by
 rw[u64_or_nat _ _ (by omega) (by omega),Nat.or_comm];have:=Nat.shiftLeft_add_eq_or_of_lt (a:=y) (i:=32) (b:=x) hx;rw[Nat.shiftLeft_eq] at this;rw[show y*4294967296=y*2^32 from rfl,<-this,Xbd]
theorem Qud {s t:Nat} {l:LN} {j x:Nat} (h:l[j]?=some x):(shr s t l).take (j+1)=(shr s t l).take j++[x / 2^s+((l[j+1]?).getD 0*2^t)%2^(s+t)]:=by
 rw[Tr,Qk7 s t l j x h];rfl
theorem Qkc (a:OA) (n c:Nat) (v z:Nat) (w:World) (h:Q0x w a n c v) (hn:n<=1000000) (hz:z<=100000000):
 Calls Tryz.prog 194 #[.slice a n c,.int .i64 (z:Int)] w fun e w'=>∃a' n' c' lb,e=.returned (.tuple #[.slice a' n' c',.bool lb])/\Q0x w' a' n' c' (v / 2^z)/\Bw w w':=by
 have hv:val (2^32) (dig (2^32) v)=v:=Q0s (by decide) v;have hl:=Q2i (B:=2^32) (by decide) v;have E7:=h.len;have hr:=h.rd;obtain ⟨A,hA⟩:∃A,dig (2^32) v=A:=⟨_,rfl⟩;rw[hA] at hv hl E7 hr;subst E7;obtain ⟨k,hk⟩:∃k,z / 32=k:=⟨_,rfl⟩;obtain ⟨s,hs⟩:∃s,z%32=s:=⟨_,rfl⟩;have VR:s<32:=by omega
 have KS:z=32*k+s:=by omega
 have Kz:(z:Int).tdiv 32=(k:Int):=by rw[Int.tdiv_eq_ediv_of_nonneg (by omega)];omega
 have hsI:(z:Int).tmod 32=(s:Int):=by rw[Int.tmod_eq_emod_of_nonneg (by omega)];omega
 have hkI2:(z:Int) / 32=(k:Int):=by omega
 have YC:(z:Int)%32=(s:Int):=by omega
 obtain ⟨i0,O2,E2,I2,X1⟩:=Xbq Q6r;have HI:=Xh4 O2 E2 I2 X1;have H:=Xh4 hv hl hr KS;clear hv hl hr hA h hk hs KS O2 E2 I2 X1
 by_cases Wg:A.length<=k
 ·have KM:(A.length:Int)<=(k:Int):=by omega
  have V8:=Qnv (s:=s) (Xo1 H) Wg;rw[(Xo0 H),<-(Xe3 H)] at V8;rw[V8];clear V8
  go_enter Tryz.func194,Tryz.ntmps194
  go_wp2_with fail
  refine ⟨rfl,.tuple #[.slice none 0 0,.bool (decide ((0:Int)<(A.length:Int)))],by simp[results,go_sem],none,0,0,_,rfl,⟨rfl,Uf _,Ut _,.inl rfl⟩,Uc _ _⟩
 ·obtain ⟨m,hm⟩:∃m,A.length=k+m:=⟨A.length-k,by omega⟩;have KM:¬((A.length:Int)<=(k:Int)):=by omega
  have hkn2:(k:Int)<(A.length:Int):=by omega
  go_enter Tryz.func194,Tryz.ntmps194
  go_wp2_with fail
  go_loopw [6,7] (fun lv iv wr=>∃(i:Nat) (lb:Bool),lv=.bool lb/\iv=.int .i64 (i:Int)/\i<=k/\w=wr) (fun _ iv _=>k-(intOf iv).toNat)
  case atStart=>exact ⟨0,false,rfl,rfl,Ut _,rfl⟩
  case round=>
   obtain ⟨i,lb,rfl,rfl,hi,rfl⟩:=hrel
   by_cases E0:i<k
   ·have F0:(i:Int)<(k:Int):=(by omega);obtain ⟨x,hx⟩:∃x,A[i]?=some x:=⟨_,Ub (by omega)⟩;obtain ⟨g1,o1,E5,W8,Y3⟩:=(Xo2 H).at_ hx;subst E5;have hil:(i:Int)<(A.length:Int):=(by omega);cases lb
    ·go_wp2_with fail
     exact ⟨⟨i+1,_,rfl,by simp,by omega,trivial⟩,by simp only[intOf];omega⟩
    ·go_wp2_with fail
     exact ⟨⟨i+1,_,rfl,by simp,by omega,trivial⟩,by simp only[intOf];omega⟩
   ·obtain rfl:k=i:=(by omega);have F0:¬((k:Int)<(k:Int)):=(by omega);obtain ⟨x,hx⟩:∃x,A[k]?=some x:=⟨_,Ub (by omega)⟩;obtain ⟨g1,o1,E5,W8,Y3⟩:=(Xo2 H).at_ hx;subst E5;clear hx
    go_upto_region 8 with fail
    go_cut [6] (fun lv wx=>∃lb2 nq,lv=.bool lb2/\w.drewN nq=wx)
    case first=>
     cases lb
     ·go_quiet (fail)
      go_wp2_with fail
      go_meet;exact ⟨_,nq,rfl,rfl⟩
     ·go_quiet (fail)
      go_wp2_with fail
      go_meet;exact ⟨_,nq,rfl,rfl⟩
    case rest=>
     obtain ⟨lb2,nq,rfl,rfl⟩:=hcut;have Yu:=Ua (Q16 (Uc w.heap.size w) nq);clear Y3 E0 F0 hi
     go_wp2_with fail
     go_loopw [8,9] (fun ov iv wr=>∃(t:Nat) (ao:OA) (co:Nat),ov=.slice ao t co/\iv=.int .i64 ((k:Int)+(t:Int))/\t<=m/\Row wr w.heap.size 150 1 ao t co (((shr s (32-s) (A.drop k)).take t).map (nv .u32))/\Bw w wr) (fun _ iv _=>k+m-(intOf iv).toNat)
     case atStart=>exact ⟨0,none,0,rfl,by simp,Ut _,Row.nil_ _ _ _ _,Yu.out⟩
     case round=>
      obtain ⟨t,ao,co,rfl,rfl,ht,A1,hb⟩:=hrel
      by_cases E0:t<m
      ·have F0:(t:Int)<(m:Int):=(by omega);obtain ⟨y0,QY⟩:∃y,A[k+t]?=some y:=⟨_,Ub (by omega)⟩;have N4:y0<4294967296:=(Xo1 H) y0 (Ug QY);obtain ⟨g2,o2,E5,M6,Y3⟩:=((Xo2 H).below hb).at_ QY;injection E5 with E5;injection E5 with e1 e2;subst e1 e2;have B9:A[k+t+1]?.getD 0<4294967296:=Qbl (by decide) (Xo1 H) (k+t+1);have hd:∀W:World,W.heap=wr.heap->Calls Tryz.prog 193 #[.slice (some ⟨g1,o1,none⟩) (k+m) c,.int .i64 ((k:Int)+(t:Int)+1)] W fun e w'=>e=.returned (.int .u64 ((A[k+t+1]?.getD 0:Nat):Int))/\∃n,w'=W.drewN n:=fun W hW=>by
        have h1:=Q7f (some ⟨g1,o1,none⟩) (k+m) c A (k+t+1) W (B:=w.heap.size) (by omega) (RdI.keep ((Xo2 H).below hb) (fun p _=>by unfold World.cell?;rw[hW])) (Xo1 H);rw[show ((k+t+1:Nat):Int)=(k:Int)+(t:Int)+1 by omega] at h1;refine h1.mono ?_;rintro e w' ⟨rfl,rfl⟩;exact ⟨rfl,0,rfl⟩
       have QL:=Qud (s:=s) (t:=32-s) (l:=A.drop k) (j:=t) (x:=y0) (by rw[Xa4];exact QY);rw[Xa4,show k+(t+1)=k+t+1 by omega,show s+(32-s)=32 by omega] at QL;generalize A[k+t+1]?.getD 0=y at*;have hdp:=Qqg (x:=y0) (y:=y) (s:=s) N4 VR;rw[<-hdp] at QL;have Y6:=Qwx y0 y N4 B9;obtain ⟨q,hq⟩:∃q,y0+y*4294967296=q:=⟨_,rfl⟩;obtain ⟨yy,hyy⟩:∃yy,y*4294967296=yy:=⟨_,rfl⟩;have hyyI:(y:Int)*4294967296=(yy:Int):=(by omega);have hyyl:yy<18446744073709551616:=(by omega);have Vo:q<18446744073709551616:=(by omega);rw[hyy] at Y6;rw[<-hyy,hq] at Y6;rw[hyy] at Y6;rw[show y0+y*2^32=q from hq] at QL;obtain ⟨p,hp⟩:∃p,q / 2^s=p:=⟨_,rfl⟩;have hpI:(q:Int) / 2^s=(p:Int):=(by rw[<-hp];norm_cast);have x7:p<18446744073709551616:=(by rw[<-hp];exact TQ (Xbn _ _) Vo);have p5:=Qqb p x7;rw[hp] at QL;obtain ⟨lo,Z4⟩:∃lo,p%4294967296=lo:=⟨_,rfl⟩;have QH:lo<4294967296:=(by omega);rw[Z4] at p5;rw[show p%2^32=lo from Z4] at QL;have hkt:(k:Int)+(t:Int)<(k:Int)+(m:Int):=(by omega);have P3:∀o nq,Bw w ((wr.drewN nq).alloc o):=fun o nq=>(Q16 hb nq).alloc hb.size o;have G3:∀o nq,w.heap.size<=((wr.drewN nq).alloc o).heap.size:=fun o nq=>(P3 o nq).size;have Jn:∀o nq,Row ((wr.drewN nq).alloc o) w.heap.size 150 1 ao t co (((shr s (32-s) (A.drop k)).take t).map (nv .u32)):=fun o nq=>(A1.drewN nq).alloc o;have HH:=Xh4 QL Jn P3 G3;clear QL Jn P3 G3 hb A1 hq hyy hp Z4 hdp QY
       go_wp2_with fail
       go_quiet (first|(refine Calls.quiet_of (hd _ ?_);rfl))
       go_wp2_with (at_builtin;refine Q0t rfl (.tmp 66) (.tmp 73) 85 rfl w _ 150 i0 _ 1 4 Tryz.underlying85 (Xo0 HI) (Xo1 HI) (Xo2 HI) (Xe3 HI) rfl (by decide) w.heap.size ((Xo2 HH) _ _) ((Xe3 HH) _ _) ao t co _ rfl ((Xo1 HH) _ _) ⟨(wr.drewN nq).heap.size,0,none⟩ 1 1 [.int .u32 (lo:Int)] rfl rfl (Q4f (wr.drewN nq) #[.int .u32 (lo:Int)] _ _) (Qfz _ _) (t+1) rfl (by omega) (by omega) ?_;intro a3 c3 w3 S8 Qa I0 J6;have HO:=Xh2 S8 I0;clear S8 Qa I0 J6)
       refine ⟨⟨t+1,a3,c3,rfl,by simp only[Value.int.injEq,true_and];omega,by omega,?_,(Xe1 HO)⟩,by simp only[intOf];omega⟩;rw[(Xo0 HH),UZ];exact (Xo0 HO)
      ·obtain rfl:m=t:=(by omega);have F0:¬(k:Int)+(m:Int)<(k:Int)+(m:Int):=(by omega);have Ql:(shr s (32-s) (A.drop k)).length=m:=(by rw[Qk5,Tu];omega);rw[Uz (by omega)] at A1;have hT:=Q54 ao m co _ wr Ql A1.cap.1 A1.cap.2 (Row.rdI A1) (Qnu (Xo1 H) k s VR);rw[Qnt A (Xo1 H) k s (by omega) VR,(Xo0 H),<-(Xe3 H)] at hT;have HT:=Xh2 hT hb;clear hT hb A1 Ql
       go_wp2_with (refine (Xo0 HT).mono ?_;rintro e w1 ⟨n',rfl,ZF,hD,rfl⟩;have Kl:=Ua hD;clear hD)
       refine ⟨rfl,.tuple #[.slice ao n' n',.bool lb2],by simp[results,go_sem],ao,n',n',lb2,rfl,Kl.out,(Xe1 HT)⟩
def Qwc (neg:Bool) (v:Nat) (e:Int) (neg':Bool) (v':Nat) (e':Int):Prop:=(v=0/\neg'=false/\v'=0/\e'=0)∨∃z:Nat,Qwb v z/\neg'=neg/\v'=v / 2^z/\e'=e+z
theorem Qav {B u v:Nat} (hB:2<=B) (h:u<=v):(dig B u).length<=(dig B v).length:=by
 refine Q2q hB (TQ h ?_);have h1:=Q2y (B:=B) (by omega) (dig B v) (Q2i hB v);rwa[Q0s hB] at h1
theorem Q0x.nil_ (w:World):Q0x w none 0 0 0:=⟨rfl,Uf _,by omega,.inl rfl⟩
theorem Qa3 (neg:Bool) (a:OA) (n c:Nat) (v:Nat) (e:Int) (w:World) (h:Q0x w a n c v) (hn:n<=1000000) (he: -1000000000<=e) (D5:e<=1000000000):
 Calls Tryz.prog 140 #[.bool neg,.slice a n c,.int .i64 e] w fun r w'=>∃neg' a' n' c' v' e',r=.returned (.agg #[.bool neg',.slice a' n' c',.int .i64 e'])/\Qwc neg v e neg' v' e'/\Q0x w' a' n' c' v'/\n'<=n/\-1000000000<=e'/\e'<=1000000000+32*n/\Bw w w':=by
 have Z2:∀o,Bw w (w.alloc o):=fun o=>Ba;have hN:=Q03.new w (.bool false) (.slice none 0 0) (.int .i64 0) 87;have J3:=Q0p w (.cells #[.bool false,.slice none 0 0,.int .i64 0] 87)
 by_cases h0:v=0
 ·have G9:n=0:=by have:=h.len;rw[h0,Q1d] at this;exact this.symm
  subst G9;have HS:=Xh2 hN (Z2 (.cells #[.bool false,.slice none 0 0,.int .i64 0] 87));obtain ⟨u6,C2,A2,u7,j5,Y5⟩:=hN.cf;have C6:=hN.d1 (.bool false);have A7:=hN.d2 (.bool false) (.slice none 0 0);clear hN Z2 h
  go_enter Tryz.func140,Tryz.ntmps140
  go_wp2_with fail
  have k0:=(Xo0 HS).c0;have k1:=(Xo0 HS).c1;have k2:=(Xo0 HS).c2;have I0:=(Xe1 HS);clear HS C6 A7 u6 C2 A2 u7 j5 Y5;generalize w.alloc _=W3 at k0 k1 k2 I0⊢;refine ⟨rfl,.agg #[.bool false,.slice none 0 0,.int .i64 0],by simp[results,go_sem,k0,k1,k2],false,none,0,0,0,0,rfl,.inl ⟨h0,rfl,rfl,rfl⟩,Q0x.nil_ _,Uf _,by omega,by omega,I0⟩
 ·have G9:n≠0:=fun e=>h0 ((Q7c (B:=2^32) (by decide)).1 (UH.1 (by rw[h.len,e])));have hn0':((n:Int)==0)=false:=by rw[Uj];omega
  have hz:=fun W (hb:Bw w W)=>Qhk a n c v W (h.step hb) hn h0;have hd:=fun W (hb:Bw w W) z hz=>Qkc a n c v z W (h.step hb) hn hz;have HZ:=Xh2 hz hd;have HN:=Xh3 hN h0 h.len;clear hz hd hN h h0
  go_enter Tryz.func140,Tryz.ntmps140
  go_wp2_with (first
   |(go_at_call_of 166 a;refine ((Xo0 HZ) _ (Z2 _)).mono ?_;rintro r w1 ⟨⟨z,rfl,I2,X1⟩,A0⟩;have O0:=Xh3 I2 A0 X1;clear A0 I2)
   |(refine ((Xe1 HZ) _ (Below.next0 (Z2 _) (Xo1 O0)) z (by omega)).mono ?_;rintro r w2 ⟨a2,n2,c2,lb,rfl,hD2,D0⟩;have P1:=((Xo0 HN).step (Xo1 O0) J3).step D0 (Ue J3 (Xo1 O0).size);
     obtain ⟨u6,C2,A2,u7,j5,Y5⟩:=P1.cf;have C6:=P1.d1 (.bool neg);have A7:=P1.d2 (.bool neg) (.slice a2 n2 c2);have D1:=Xh3 P1 hD2 D0;clear P1 D0 hD2))
  have hS:=(Xo0 D1).store (.bool neg) (.slice a2 n2 c2) (.int .i64 (e+(z:Int)));obtain ⟨k0,k1,k2⟩:=hS.cc;have I0:=Q03.below (Below.next0 (Below.next0 (Z2 _) (Xo1 O0)) (Xe2 D1)) (Uf _) (.bool neg) (.slice a2 n2 c2) (.int .i64 (e+(z:Int)));have hD:=(Xo1 D1);have hD3:Q0x _ a2 n2 c2 (v / 2^z):=⟨hD.len,hD.cap,hD.most,(hD.rd.store3 (Xo0 D1) (fun _=>by simp[nv]) (fun _=>by simp[nv]) (fun _=>by simp[nv]) (.bool neg) (.slice a2 n2 c2) (.int .i64 (e+(z:Int)))).more (Q3i _ _ _ _ _)⟩;clear u6 C2 A2 u7 j5 Y5 C6 A7 hS hD;have o4:n2<=n:=by
   rw[<-hD3.len,<-(Xe2 HN)];exact Qav (by decide) (Xbn _ _)
  generalize World.setCell _ _ _=W3 at k0 k1 k2 I0 hD3⊢;refine ⟨rfl,.agg #[.bool neg,.slice a2 n2 c2,.int .i64 (e+(z:Int))],by simp[results,go_sem,k0,k1,k2],neg,a2,n2,c2,v / 2^z,e+(z:Int),rfl,.inr ⟨z,(Xo0 O0),rfl,rfl,rfl⟩,hD3,o4,by omega,by omega,I0⟩
theorem WordsIn.nil_ (w:World):WordsIn w none 0 0 []:=⟨rfl,Uf _,by omega,fun x hx=>by simp at hx,.inl rfl⟩
def dy (n e:Int):Dyadic:=Dyadic.ofIntWithPrec n (-e)
theorem Q7g (n e:Int):(dy n e).toRat=(n:Rat)*2^e:=by
 unfold dy;rw[Dyadic.toRat_ofIntWithPrec_eq_mul_two_pow,Int.neg_neg]
theorem Qm8 (a b e:Int):dy a e+dy b e=dy (a+b) e:=by
 rw[<-Dyadic.toRat_inj,Dyadic.toRat_add,Q7g,Q7g,Q7g,Rat.intCast_add,Rat.add_mul]
theorem Qcb (a e:Int): -dy a e=dy (-a) e:=by
 unfold dy;rw[Dyadic.neg_ofIntWithPrec]
theorem Q6s (e:Int):dy 0 e=0:=rfl
theorem Qwd (a b e f:Int):dy a e*dy b f=dy (a*b) (e+f):=by
 rw[<-Dyadic.toRat_inj,Dyadic.toRat_mul,Q7g,Q7g,Q7g,Rat.intCast_mul,Rat.zpow_add (by decide)];generalize (2:Rat)^e=x;generalize (2:Rat)^f=y
 grind
theorem Qcc (a e:Int) (k:Nat):dy a (e+k)=dy (a*2^k) e:=by
 rw[<-Dyadic.toRat_inj,Q7g,Q7g,Rat.zpow_add (by decide),Rat.intCast_mul,Rat.intCast_pow,Rat.zpow_natCast];generalize (2:Rat)^e=x;rw[show ((2:Int):Rat)=2 from rfl];generalize (2:Rat)^k=y
 grind
theorem Qcd {a e:Int} (h:a%2=1):dy a e=.ofOdd a (-e) h:=Dyadic.ofOdd_eq_ofIntWithPrec.symm
theorem Qqh {a b e f:Int} (ha:a%2=1) (hb:b%2=1) (h:dy a e=dy b f):a=b/\e=f:=by
 rw[Qcd ha,Qcd hb] at h;injection h with h1 h2;exact ⟨h1,by omega⟩
theorem Qnw {a e:Int} (ha:a%2=1):dy a e≠0:=by
 rw[Qcd ha];exact Dyadic.of_ne_zero
def sgn (neg:Bool) (v:Nat):Int:=if neg=true then -(v:Int) else (v:Int)
theorem Q4b (neg:Bool):sgn neg 0=0:=by cases neg <;> rfl
theorem Q55 {neg:Bool} {v:Nat} (h:v%2=1):sgn neg v%2=1:=by
 unfold sgn;split <;> omega
theorem Qce (neg:Bool) (v:Nat):(sgn neg v).natAbs=v:=by
 unfold sgn;split <;> omega
theorem Qwy {n m:Bool} {v u:Nat} (hv:v≠0) (h:sgn n v=sgn m u):n=m/\v=u:=by
 unfold sgn at h;cases n <;> cases m <;> simp at h <;> first|(refine ⟨rfl,?_⟩;omega)|(exfalso;omega)
theorem Qqi (n:Bool) (v:Nat):sgn (!n) v= -sgn n v:=by
 cases n <;> simp[sgn]
theorem Qqj (n m:Bool) (v u:Nat):sgn n v*sgn m u=sgn (n != m) (v*u):=by
 cases n <;> cases m <;> simp[sgn,Int.neg_mul,Int.mul_neg]
theorem Q3k (n:Bool) (v k:Nat):sgn n v*2^k=sgn n (v*2^k):=by
 cases n <;> simp[sgn,Int.neg_mul]
def Q64 (d:Dyadic):Prop:=d=0∨∃m e:Int,d=dy m e/\m%2=1/\m.natAbs<(2^64)^64/\-65536<=e/\e<=65536
def Q1r (neg:Bool) (e:Int) (L:LN):Dyadic:=dy (sgn neg (val (2^64) L)) e
theorem Que:Q1r false 0 []=0:=rfl
theorem Q1a {neg:Bool} {e:Int} {L:LN} (h:Q0a neg e L) (hl:Low (2^64) L):
 (L=[]/\neg=false/\e=0)∨(L≠[]/\val (2^64) L%2=1/\L=dig (2^64) (val (2^64) L)/\val (2^64) L<(2^64)^64/\-65536<=e/\e<=65536):=by
 unfold Q0a at h
 by_cases hL:L=[]
 ·rw[Uu hL] at h;exact .inl ⟨hL,h⟩
 ·rw[Us hL] at h;obtain ⟨h1,h2,h3,h4,h5⟩:=h;have ht:trimL L=L:=by
   have:=Q3d L;rw[h1,Ti] at this;exact this.symm
  refine .inr ⟨hL,?_,?_,?_,h4,h5⟩
  ·cases L with
   |nil=>exact absurd rfl hL
   |cons x r=>
    have Vi:x%2=1:=h3;simp only[val];omega
  ·rw[<-Q1m (by decide) hl,ht]
  ·exact Ue (Q2y (by decide) L hl) (UL (by decide) h2)
theorem Q3n {neg:Bool} {e:Int} {L:LN} (h:Q0a neg e L) (hl:Low (2^64) L):Q64 (Q1r neg e L):=by
 rcases Q1a h hl with ⟨rfl,rfl,rfl⟩|⟨_,h1,_,h2,h3,h4⟩
 ·exact .inl rfl
 ·exact .inr ⟨_,_,rfl,Q55 h1,by rw[Qce];exact h2,h3,h4⟩
theorem Q65 {neg:Bool} {e:Int} {L:LN} (h:Q0a neg e L) (hl:Low (2^64) L):Q1r neg e L=0↔L=[]:=by
 rcases Q1a h hl with ⟨rfl,rfl,rfl⟩|⟨h0,h1,_⟩
 ·exact ⟨fun _=>rfl,fun _=>rfl⟩
 ·exact ⟨fun h=>absurd h (Qnw (Q55 h1)),fun h=>absurd h h0⟩
theorem Qkd {n m:Bool} {e f:Int} {L K:LN} (h1:Q0a n e L) (l1:Low (2^64) L) (h2:Q0a m f K) (l2:Low (2^64) K) (h:Q1r n e L=Q1r m f K):n=m/\e=f/\L=K:=by
 rcases Q1a h1 l1 with ⟨rfl,rfl,rfl⟩|⟨h0,ho,hd,_⟩
 ·have hz:Q1r m f K=0:=h.symm;have hK:=(Q65 h2 l2).1 hz;subst hK;unfold Q0a at h2;rw[Uu rfl] at h2;exact ⟨h2.1.symm,h2.2.symm,rfl⟩
 ·rcases Q1a h2 l2 with ⟨rfl,rfl,rfl⟩|⟨k0,ko,kd,_⟩
  ·exact absurd h (Qnw (Q55 ho))
  ·obtain ⟨hs,he⟩:=Qqh (Q55 ho) (Q55 ko) h;obtain ⟨hn,hv⟩:=Qwy (by omega) hs;exact ⟨hn,he,by rw[hd,kd,hv]⟩
theorem Quf {v z:Nat} (h:Qwb v z) (neg:Bool) (e:Int):dy (sgn neg (v / 2^z)) (e+z)=dy (sgn neg v) e:=by
 rw[Qcc,Q3k,Nat.div_mul_cancel (Nat.dvd_of_mod_eq_zero h.1)]
theorem Qg1 {v:Nat} (h:v<(2^64)^64):(dig (2^64) v).length<=64:=Q2q (by decide) h
theorem Qwz {v:Nat} (h:(dig (2^64) v).length<=64):v<(2^64)^64:=by
 have h1:=Q2y (B:=2^64) (by decide) (dig (2^64) v) (Q2i (by decide) v);rw[Q0s (by decide)] at h1;exact Ue h1 (UL (by decide) h)
theorem Qqk {neg:Bool} {e:Int} {q:Nat} (ho:q%2=1):Q0a neg e (dig (2^64) q)↔(q<(2^64)^64/\-65536<=e/\e<=65536):=by
 have C9:q≠0:=by omega
 have P0:dig (2^64) q≠[]:=fun h=>C9 ((Q7c (by decide)).1 h);have ht:trimL (dig (2^64) q)=dig (2^64) q:=by rw[Q1m (by decide) (Q2i (by decide) q),Q0s (by decide)]
 have hh:(dig (2^64) q).headD 0%2=1:=by
  rw[Q6q (by decide) C9]
  show q%2^64%2=1
  omega
 unfold Q0a;rw[Us P0,ht]
 constructor
 ·rintro ⟨_,h2,_,h4,h5⟩;exact ⟨Qwz h2,h4,h5⟩
 ·rintro ⟨h1,h2,h3⟩;exact ⟨rfl,Qg1 h1,hh,h2,h3⟩
theorem Q93 {neg:Bool} {e:Int} {q:Nat} (ho:q%2=1):Q64 (dy (sgn neg q) e)↔(q<(2^64)^64/\-65536<=e/\e<=65536):=by
 constructor
 ·rintro (h|⟨m,f,h,hm,h1,h2,h3⟩)
  ·exact absurd h (Qnw (Q55 ho))
  ·obtain ⟨rfl,rfl⟩:=Qqh (Q55 ho) hm h;rw[Qce] at h1;exact ⟨h1,h2,h3⟩
 ·rintro ⟨h1,h2,h3⟩;exact .inr ⟨_,_,rfl,Q55 ho,by rw[Qce];exact h1,h2,h3⟩
def Qql (d:Dyadic) (n':Bool) (e':Int) (L:LN) (er:Int):Prop:=
 (Q64 d/\er=0/\Q0a n' e' L/\Q1r n' e' L=d)∨(¬Q64 d/\er=2/\n'=false/\e'=0/\L=[])
theorem Q94 {neg:Bool} {v:Nat} {exp:Int} {n':Bool} {e':Int} {L:LN} {er:Int} (h:Qfy neg v exp n' e' L er):Qql (dy (sgn neg v) exp) n' e' L er:=by
 rcases h with ⟨rfl,rfl,rfl,rfl,rfl⟩|⟨z,hz,h⟩
 ·exact .inl ⟨by rw[Q4b];exact .inl rfl,rfl,by decide,by rw[Q4b];rfl⟩
 ·have hf:=Q93 (neg:=neg) (e:=exp+z) hz.2;have hi:=Qqk (neg:=neg) (e:=exp+z) hz.2;rw[Quf hz] at hf;rcases h with ⟨h,rfl,rfl,rfl,rfl⟩|⟨h1,h2,h3,rfl,rfl,rfl,rfl⟩
  ·refine .inr ⟨fun Q8=>?_,rfl,rfl,rfl,rfl⟩;have h4:=hf.1 Q8;rcases h with h|h|h
   ·omega
   ·omega
   ·exact h (hi.2 h4)
  ·refine .inl ⟨hf.2 (hi.1 h3),rfl,h3,?_⟩;unfold Q1r;rw[Q0s (by decide),Quf hz]
def Q5n (neg:Bool) (v:Nat) (e:Int):Prop:=(v=0->neg=false/\e=0)/\(v≠0->v%2=1)
theorem Qcf {neg:Bool} {v:Nat} {e:Int} {n':Bool} {v':Nat} {e':Int} (h:Qwc neg v e n' v' e'):Q5n n' v' e'/\dy (sgn n' v') e'=dy (sgn neg v) e:=by
 rcases h with ⟨rfl,rfl,rfl,rfl⟩|⟨z,hz,rfl,rfl,rfl⟩
 ·exact ⟨⟨fun _=>⟨rfl,rfl⟩,fun h=>absurd rfl h⟩,by rw[Q4b,Q4b];rfl⟩
 ·have:=hz.2;exact ⟨⟨fun h=>by omega,fun _=>hz.2⟩,Quf hz _ _⟩
def Q3e:List Int->List Int->Int
 |[],[]=>0
 |[],_::_=> -1
 |_::_,[]=>1
 |a::xs,b::bs=>if a<b then -1 else if b<a then 1 else Q3e xs bs
theorem Q8i:∀(a b:List Int),Q3e a b=0↔a=b
 |[],[]=>by simp[Q3e]
 |[],_::_=>by simp[Q3e]
 |_::_,[]=>by simp[Q3e]
 |a::xs,b::bs=>by
  have ih:=Q8i xs bs;simp only[Q3e,List.cons.injEq]
  split
  ·constructor
   ·intro h;omega
   ·rintro ⟨rfl,_⟩;omega
  ·split
   ·constructor
    ·intro h;omega
    ·rintro ⟨rfl,_⟩;omega
   ·rw[ih]
    constructor
    ·intro h;exact ⟨by omega,h⟩
    ·exact fun h=>h.2
theorem Qcg (a:List Int):Q3e a a=0:=(Q8i a a).2 rfl
theorem Q3t:∀(a b:List Int),Q3e b a= -Q3e a b
 |[],[]=>rfl
 |[],_::_=>rfl
 |_::_,[]=>rfl
 |a::xs,b::bs=>by
  have ih:=Q3t xs bs;simp only[Q3e]
  by_cases h1:a<b
  ·rw[Us (by omega),Uu h1,Uu h1];rfl
  ·by_cases h2:b<a
   ·rw[Uu h2,Us h1,Uu h2]
   ·rw[Us h2,Us h1,Us h1,Us h2,ih]
theorem Qeo:∀(a b:List Int),-1<=Q3e a b/\Q3e a b<=1
 |[],[]=>by simp[Q3e]
 |[],_::_=>by simp[Q3e]
 |_::_,[]=>by simp[Q3e]
 |a::xs,b::bs=>by
  have ih:=Qeo xs bs;simp only[Q3e]
  split
  ·omega
  ·split
   ·omega
   ·exact ih
theorem Q66:∀(a b c:List Int),0<Q3e a b->0<Q3e b c->0<Q3e a c
 |[],[],_=>fun h=>by simp[Q3e] at h
 |[],_::_,_=>fun h=>by simp[Q3e] at h
 |_::_,[],[]=>fun _ h=>by simp[Q3e] at h
 |_::_,[],_::_=>fun _ h=>by simp[Q3e] at h
 |_::_,_::_,[]=>fun _ _=>by simp[Q3e]
 |a::xs,b::bs,c::cs=>by
  have ih:=Q66 xs bs cs;simp only[Q3e];intro h1 h2
  by_cases c1:a<b
  ·rw[Uu c1] at h1;omega
  ·rw[Us c1] at h1
   by_cases c2:b<c
   ·rw[Uu c2] at h2;omega
   ·rw[Us c2] at h2;rw[Us (by omega)]
    by_cases c3:c<a
    ·rw[Uu c3];omega
    ·rw[Us c3];rw[Us (by omega)] at h1;rw[Us (by omega)] at h2;exact ih h1 h2
abbrev Q0l:=Dyadic × List Int
def Qe9 (l:List Q0l):Prop:=l.Pairwise fun p q=>0<Q3e p.2 q.2
def Q1f (E:List Int):List Q0l->Dyadic
 |[]=>0
 |p::r=>(if p.2=E then p.1 else 0)+Q1f E r
theorem Q95 (E:List Int) (l r:List Q0l):Q1f E (l++r)=Q1f E l+Q1f E r:=by
 induction l with
 |nil=>simp[Q1f]
 |cons p l ih=>rw[To,Q1f,Q1f,ih,Dyadic.add_assoc]
theorem Qke {E:List Int} {l:List Q0l} (h:∀p∈l,p.2≠E):Q1f E l=0:=by
 induction l with
 |nil=>rfl
 |cons p l ih=>
  rw[Q1f,Us (h p (by simp)),ih fun q hq=>h q (by simp[hq])];rfl
theorem Qe9.tail_ne {p:Q0l} {l:List Q0l} (h:Qe9 (p::l)):∀q∈l,q.2≠p.2:=fun q hq e=>by
 have:=(TM.1 h).1 q hq;rw[e,Qcg] at this;omega
theorem Q4y {l:List Q0l} (hn:l.Pairwise fun p q=>p.2≠q.2) {p:Q0l} (h:p∈l):Q1f p.2 l=p.1:=by
 induction l with
 |nil=>cases h
 |cons q l ih=>
  obtain ⟨h1,h2⟩:=TM.1 hn;rcases UG.1 h with rfl|h
  ·rw[Q1f,Uu rfl,Qke (fun r hr e=>h1 r hr e.symm),Xbo]
  ·rw[Q1f,Us (h1 p h),ih h2 h,Dyadic.zero_add]
theorem Qe9.once {l:List Q0l} (h:Qe9 l):l.Pairwise fun p q=>p.2≠q.2:=by
 unfold Qe9 at h;refine h.imp ?_;intro p q h e;rw[e,Qcg] at h;omega
theorem Qe9.same:∀{l r:List Q0l},Qe9 l->Qe9 r->(∀p,p∈l↔p∈r)->l=r
 |[],[],_,_,_=>rfl
 |[],q::r,_,_,h=>by have:=(h q).2 (by simp);cases this
 |p::l,[],_,_,h=>by have:=(h p).1 (by simp);cases this
 |p::l,q::r,hl,hr,h=>by
  obtain ⟨l1,l2⟩:=TM.1 hl;obtain ⟨r1,r2⟩:=TM.1 hr;have hpq:p=q:=by
   have hp:=(h p).1 (by simp);have hq:=(h q).2 (by simp);rcases UG.1 hp with e|hp
   ·exact e
   ·rcases UG.1 hq with e|hq
    ·exact e.symm
    ·have a1:=l1 q hq;have a2:=r1 p hp;have a3:=Q3t p.2 q.2;omega
  subst hpq
  congr 1
  refine Qe9.same l2 r2 fun x=>?_;have hx:=h x
  constructor
  ·intro N4;rcases UG.1 (hx.1 (by simp[N4])) with e|h'
   ·subst e;exact absurd rfl (hl.tail_ne x N4)
   ·exact h'
  ·intro hxr;rcases UG.1 (hx.2 (by simp[hxr])) with e|h'
   ·subst e;exact absurd rfl (hr.tail_ne x hxr)
   ·exact h'
def Qk3 (l:List Q0l) (c:Q0l):List Q0l:=
 match l with
 |[]=>[c]
 |q::r=>if 0<Q3e q.2 c.2 then q::Qk3 r c else if q.2=c.2 then (q.1+c.1,q.2)::r else c::q::r
def Q3u (l:List Q0l):List Q0l:=l.foldl Qk3 []
theorem Qhl (l:List Q0l) (c:Q0l) (p:Q0l) (h:p∈Qk3 l c):p∈l∨p.2=c.2:=by
 induction l with
 |nil=>simp only[Qk3,UC] at h;exact .inr (by rw[h])
 |cons q r ih=>
  simp only[Qk3] at h
  split at h
  ·rcases UG.1 h with rfl|h
   ·exact .inl (by simp)
   ·rcases ih h with h|h
    ·exact .inl (by simp[h])
    ·exact .inr h
  ·split at h
   ·rename_i h2;rcases UG.1 h with rfl|h
    ·exact .inr h2
    ·exact .inl (by simp[h])
   ·rcases UG.1 h with rfl|h
    ·exact .inr rfl
    ·exact .inl h
theorem Qqm {l:List Q0l} (h:Qe9 l) (c:Q0l):Qe9 (Qk3 l c):=by
 induction l with
 |nil=>simp[Qk3,Qe9]
 |cons q r ih=>
  obtain ⟨h1,h2⟩:=TM.1 h;simp only[Qk3]
  split
  ·rename_i hc;refine TM.2 ⟨fun p hp=>?_,ih h2⟩;rcases Qhl r c p hp with hp|hp
   ·exact h1 p hp
   ·rw[hp];exact hc
  ·split
   ·exact TM.2 ⟨h1,h2⟩
   ·rename_i C2 A2;have h0:0<Q3e c.2 q.2:=by
     have a1:=Q3t q.2 c.2;have a2:Q3e q.2 c.2≠0:=fun e=>A2 ((Q8i _ _).1 e);omega
    refine TM.2 ⟨fun p hp=>?_,h⟩;rcases UG.1 hp with rfl|hp
    ·exact h0
    ·exact Q66 _ _ _ h0 (h1 p hp)
theorem Qqn (E:List Int) (l:List Q0l) (c:Q0l):Q1f E (Qk3 l c)=Q1f E l+Q1f E [c]:=by
 induction l with
 |nil=>simp[Qk3,Q1f]
 |cons q r ih=>
  simp only[Qk3]
  split
  ·simp only[Q1f,ih,Dyadic.add_assoc]
  ·split
   ·rename_i h2;simp only[Q1f,Xbo];rw[<-h2]
    by_cases hq:q.2=E
    ·rw[Uu hq,Uu hq,Uu hq];grind
    ·rw[Us hq,Us hq,Us hq];grind
   ·simp only[Q1f,Xbo];grind
theorem Qug (l:List Q0l) (c:Q0l):(∃p∈Qk3 l c,p.2=c.2)/\∀p∈l,∃q∈Qk3 l c,q.2=p.2:=by
 induction l with
 |nil=>exact ⟨⟨c,by simp[Qk3],rfl⟩,fun p hp=>(by cases hp)⟩
 |cons q r ih=>
  obtain ⟨⟨x,hx,Q3⟩,ih2⟩:=ih;simp only[Qk3]
  split
  ·refine ⟨⟨x,by simp[hx],Q3⟩,fun p hp=>?_⟩;rcases UG.1 hp with rfl|hp
   ·exact ⟨p,by simp,rfl⟩
   ·obtain ⟨y,hy,M9⟩:=ih2 p hp;exact ⟨y,by simp[hy],M9⟩
  ·split
   ·rename_i h2;refine ⟨⟨_,Xad,h2⟩,fun p hp=>?_⟩;rcases UG.1 hp with rfl|hp
    ·exact ⟨_,Xad,rfl⟩
    ·exact ⟨p,by simp[hp],rfl⟩
   ·exact ⟨⟨c,by simp,rfl⟩,fun p hp=>⟨p,by simp only[UG] at hp⊢;exact .inr hp,rfl⟩⟩
theorem Qnx (l:List Q0l) (c:Q0l):Q3u (l++[c])=Qk3 (Q3u l) c:=by simp[Q3u]
theorem Qbm (l:List Q0l):Qe9 (Q3u l)/\(∀E,Q1f E (Q3u l)=Q1f E l)/\(∀p∈Q3u l,∃q∈l,q.2=p.2)/\(∀p∈l,∃q∈Q3u l,q.2=p.2):=by
 have key:∀n,∀l:List Q0l,l.length=n->Qe9 (Q3u l)/\(∀E,Q1f E (Q3u l)=Q1f E l)/\(∀p∈Q3u l,∃q∈l,q.2=p.2)/\(∀p∈l,∃q∈Q3u l,q.2=p.2):=by
  intro n
  induction n with
  |zero=>
   intro l hl;obtain rfl:=UH.1 hl;exact ⟨List.Pairwise.nil,fun _=>rfl,fun p hp=>(by cases hp),fun p hp=>(by cases hp)⟩
  |succ n ih=>
   intro l hl;have P0:l≠[]:=fun e=>by rw[e] at hl;simp at hl
   obtain ⟨k,c,rfl⟩:∃k c,l=k++[c]:=⟨l.dropLast,l.getLast P0,(List.dropLast_concat_getLast P0).symm⟩;obtain ⟨h1,h2,h3,h4⟩:=ih k (by simpa using hl);rw[Qnx];refine ⟨Qqm h1 c,fun E=>by rw[Qqn,h2,Q95],fun p hp=>?_,fun p hp=>?_⟩
   ·rcases Qhl _ c p hp with hp|hp
    ·obtain ⟨q,hq,J5⟩:=h3 p hp;exact ⟨q,by simp[hq],J5⟩
    ·exact ⟨c,by simp,hp.symm⟩
   ·obtain ⟨i1,i2⟩:=Qug (Q3u k) c;rcases Tp.1 hp with hp|hp
    ·obtain ⟨q,hq,J5⟩:=h4 p hp;obtain ⟨r,hr,X0⟩:=i2 q hq;exact ⟨r,hr,X0.trans J5⟩
    ·rw[UC] at hp;subst hp;exact i1
 exact key _ l rfl
theorem Qm9 (l:List Q0l) (p:Q0l):p∈Q3u l↔(∃q∈l,q.2=p.2)/\p.1=Q1f p.2 l:=by
 obtain ⟨h1,h2,h3,h4⟩:=Qbm l
 constructor
 ·intro hp;exact ⟨h3 p hp,by rw[<-h2,Q4y h1.once hp]⟩
 ·rintro ⟨⟨q,hq,J5⟩,hp⟩;obtain ⟨r,hr,X0⟩:=h4 q hq;have h5:=Q4y h1.once hr;rw[h2] at h5;have h6:r=p:=by
   obtain ⟨r1,r2⟩:=r;obtain ⟨p1,p2⟩:=p;simp only at X0 h5 hp J5;rw[J5] at X0;subst X0;rw[<-h5,<-hp]
  rw[<-h6];exact hr
theorem Qqo {l:List Q0l} (h:Qe9 l):Q3u l=l:=by
 refine Qe9.same (Qbm l).1 h fun p=>?_;rw[Qm9]
 constructor
 ·rintro ⟨⟨q,hq,J5⟩,hp⟩;have h5:=Q4y h.once hq;rw[J5] at h5;have:q=p:=by
   obtain ⟨q1,q2⟩:=q;obtain ⟨p1,p2⟩:=p;simp only at J5 h5 hp;subst J5;rw[hp,h5]
  rw[<-this];exact hq
 ·intro hp;exact ⟨⟨p,hp,rfl⟩,(Q4y h.once hp).symm⟩
def Q5y (l:List Q0l) (c:Q0l):List Q0l:=
 match l with
 |[]=>[c]
 |q::r=>if q.2=c.2 then (q.1+c.1,q.2)::r else q::Q5y r c
def Qaw (l:List Q0l):List Q0l:=l.foldl Q5y []
theorem Qhm (l:List Q0l) (c:Q0l):Qaw (l++[c])=Q5y (Qaw l) c:=by simp[Qaw]
theorem Qny (E:List Int) (l:List Q0l) (c:Q0l):Q1f E (Q5y l c)=Q1f E l+Q1f E [c]:=by
 induction l with
 |nil=>simp[Q5y,Q1f]
 |cons q r ih=>
  simp only[Q5y]
  split
  ·rename_i h2;simp only[Q1f,Xbo];rw[<-h2]
   by_cases hq:q.2=E
   ·rw[Uu hq,Uu hq,Uu hq];grind
   ·rw[Us hq,Us hq,Us hq];grind
  ·simp only[Q1f,ih,Dyadic.add_assoc]
theorem Qep (l:List Q0l) (c:Q0l) (p:Q0l) (h:p∈Q5y l c):(∃q∈l,q.2=p.2)∨p.2=c.2:=by
 induction l with
 |nil=>simp only[Q5y,UC] at h;exact .inr (by rw[h])
 |cons q r ih=>
  simp only[Q5y] at h
  split at h
  ·rename_i h2;rcases UG.1 h with rfl|h
   ·exact .inr h2
   ·exact .inl ⟨p,by simp[h],rfl⟩
  ·rcases UG.1 h with rfl|h
   ·exact .inl ⟨p,by simp,rfl⟩
   ·rcases ih h with ⟨x,hx,Q3⟩|h
    ·exact .inl ⟨x,by simp[hx],Q3⟩
    ·exact .inr h
theorem Qqp (l:List Q0l) (c:Q0l):(∃p∈Q5y l c,p.2=c.2)/\∀p∈l,∃q∈Q5y l c,q.2=p.2:=by
 induction l with
 |nil=>exact ⟨⟨c,by simp[Q5y],rfl⟩,fun p hp=>(by cases hp)⟩
 |cons q r ih=>
  obtain ⟨⟨x,hx,Q3⟩,ih2⟩:=ih;simp only[Q5y]
  split
  ·rename_i h2;refine ⟨⟨_,Xad,h2⟩,fun p hp=>?_⟩;rcases UG.1 hp with rfl|hp
   ·exact ⟨_,Xad,rfl⟩
   ·exact ⟨p,by simp[hp],rfl⟩
  ·refine ⟨⟨x,by simp[hx],Q3⟩,fun p hp=>?_⟩;rcases UG.1 hp with rfl|hp
   ·exact ⟨p,by simp,rfl⟩
   ·obtain ⟨y,hy,M9⟩:=ih2 p hp;exact ⟨y,by simp[hy],M9⟩
theorem Qnz {l:List Q0l} (h:l.Pairwise fun p q=>p.2≠q.2) (c:Q0l):(Q5y l c).Pairwise fun p q=>p.2≠q.2:=by
 induction l with
 |nil=>simp[Q5y]
 |cons q r ih=>
  obtain ⟨h1,h2⟩:=TM.1 h;simp only[Q5y]
  split
  ·exact TM.2 ⟨h1,h2⟩
  ·rename_i hc;refine TM.2 ⟨fun p hp=>?_,ih h2⟩;rcases Qep r c p hp with ⟨x,hx,Q3⟩|hp
   ·rw[<-Q3];exact h1 x hx
   ·rw[hp];exact hc
theorem Qqq (l:List Q0l):((Qaw l).Pairwise fun p q=>p.2≠q.2)/\(∀E,Q1f E (Qaw l)=Q1f E l)/\(∀p∈Qaw l,∃q∈l,q.2=p.2)/\(∀p∈l,∃q∈Qaw l,q.2=p.2):=by
 have key:∀n,∀l:List Q0l,l.length=n->((Qaw l).Pairwise fun p q=>p.2≠q.2)/\(∀E,Q1f E (Qaw l)=Q1f E l)/\(∀p∈Qaw l,∃q∈l,q.2=p.2)/\(∀p∈l,∃q∈Qaw l,q.2=p.2):=by
  intro n
  induction n with
  |zero=>
   intro l hl;obtain rfl:=UH.1 hl;exact ⟨List.Pairwise.nil,fun _=>rfl,fun p hp=>(by cases hp),fun p hp=>(by cases hp)⟩
  |succ n ih=>
   intro l hl;have P0:l≠[]:=fun e=>by rw[e] at hl;simp at hl
   obtain ⟨k,c,rfl⟩:∃k c,l=k++[c]:=⟨l.dropLast,l.getLast P0,(List.dropLast_concat_getLast P0).symm⟩;obtain ⟨h1,h2,h3,h4⟩:=ih k (by simpa using hl);rw[Qhm];refine ⟨Qnz h1 c,fun E=>by rw[Qny,h2,Q95],fun p hp=>?_,fun p hp=>?_⟩
   ·rcases Qep _ c p hp with ⟨x,hx,Q3⟩|hp
    ·obtain ⟨q,hq,J5⟩:=h3 x hx;exact ⟨q,by simp[hq],J5.trans Q3⟩
    ·exact ⟨c,by simp,hp.symm⟩
   ·obtain ⟨i1,i2⟩:=Qqp (Qaw k) c;rcases Tp.1 hp with hp|hp
    ·obtain ⟨q,hq,J5⟩:=h4 p hp;obtain ⟨r,hr,X0⟩:=i2 q hq;exact ⟨r,hr,X0.trans J5⟩
    ·rw[UC] at hp;subst hp;exact i1
 exact key _ l rfl
theorem Qx0 (l:List Q0l) (p:Q0l):p∈Qaw l↔(∃q∈l,q.2=p.2)/\p.1=Q1f p.2 l:=by
 obtain ⟨h1,h2,h3,h4⟩:=Qqq l
 constructor
 ·intro hp;exact ⟨h3 p hp,by rw[<-h2,Q4y h1 hp]⟩
 ·rintro ⟨⟨q,hq,J5⟩,hp⟩;obtain ⟨r,hr,X0⟩:=h4 q hq;have h5:=Q4y h1 hr;rw[h2] at h5;have h6:r=p:=by
   obtain ⟨r1,r2⟩:=r;obtain ⟨p1,p2⟩:=p;simp only at X0 h5 hp J5;rw[J5] at X0;subst X0;rw[<-h5,<-hp]
  rw[<-h6];exact hr
theorem Qg2 (l:List Q0l) (p:Q0l):p∈Qaw l↔p∈Q3u l:=by rw[Qx0,Qm9]
def Qa4:Dyadic->Bool
 | .zero=>true
 | .ofOdd n k _=>decide (n.natAbs<(2^64)^64) && (decide (-65536<=-k) && decide (-k<=65536))
theorem Q1j (d:Dyadic):Qa4 d=true↔Q64 d:=by
 cases d with
 |zero=>exact ⟨fun _=>.inl rfl,fun _=>rfl⟩
 |ofOdd n k h=>
  have e:Dyadic.ofOdd n k h=dy n (-k):=by rw[Qcd h,Int.neg_neg]
  constructor
  ·intro hb;simp only[Qa4,Xav,TJ] at hb;exact .inr ⟨n,-k,e,h,hb.1,hb.2.1,hb.2.2⟩
  ·rintro (h0|⟨m,f,h1,hm,h2,h3,h4⟩)
   ·exact absurd h0 Dyadic.of_ne_zero
   ·rw[e] at h1;obtain ⟨rfl,hk⟩:=Qqh h hm h1;simp only[Qa4,Xav,TJ];exact ⟨h2,by omega,by omega⟩
theorem Qma (d:Dyadic):Qa4 d=false↔¬Q64 d:=by
 rw[<-Q1j];simp
theorem Qhn:Q64 0:=.inl rfl
theorem Quh {d:Dyadic} (h:Q64 d):Q64 (-d):=by
 rcases h with rfl|⟨m,e,rfl,h1,h2,h3⟩
 ·exact .inl rfl
 ·exact .inr ⟨-m,e,Qcb m e,by omega,by omega,h3⟩
def Q3q (l:List Q0l):Except Int (List Q0l):=
 if (Q3u l).any (fun p=> !Qa4 p.1)=true then .error 2
 else if 24<((Q3u l).filter fun p=>decide (p.1≠0)).length then .error 6
 else .ok ((Q3u l).filter fun p=>decide (p.1≠0))
def Q10 (n:Nat) (E:List Int):Prop:=E.length=n/\(∀x∈E,0<=x)/\E.sum<=8
instance (n:Nat) (E:List Int):Decidable (Q10 n E):=by unfold Q10;infer_instance
def Qeq (n:Nat) (p:Q0l):Prop:=Q64 p.1/\Q10 n p.2
def Q56 (n:Nat) (P:List Q0l):Prop:=Qe9 P/\P.length<=24/\∀p∈P,p.1≠0/\Qeq n p
theorem Qho {n:Nat} {P:List Q0l} (h:Q56 n P):P.filter (fun p=>decide (p.1≠0))=P:=by
 rw[List.filter_eq_self];intro p hp;simpa using (h.2.2 p hp).1
theorem Qhp {n:Nat} {P:List Q0l} (h:Q56 n P):Q3q P=.ok P:=by
 unfold Q3q;rw[Qqo h.1,Qho h,Us,Us (by have:=h.2.1;omega)];intro ha;obtain ⟨p,hp,hf⟩:=Xbl.1 ha;have:=(Q1j p.1).2 (h.2.2 p hp).2.1;rw[this] at hf;cases hf
def Qui (a b:List Q0l):Except Int (List Q0l):=Q3q (a++b)
def Q96 (a:List Q0l):List Q0l:=a.map fun p=>(-p.1,p.2)
def Qpz (P:List Q0l):Int:=P.foldl (fun d p=>max d p.2.sum) 0
theorem Qmb (P:List Q0l) (d:Int):d<=P.foldl (fun d p=>max d p.2.sum) d/\∀p∈P,p.2.sum<=P.foldl (fun d p=>max d p.2.sum) d:=by
 induction P generalizing d with
 |nil=>exact ⟨Int.le_refl _,fun p hp=>by cases hp⟩
 |cons q P ih=>
  obtain ⟨h1,h2⟩:=ih (max d q.2.sum);rw[Xbg];refine ⟨by omega,fun p hp=>?_⟩;rcases UG.1 hp with rfl|hp
  ·omega
  ·exact h2 p hp
theorem Qqr {P:List Q0l} {p:Q0l} (h:p∈P):p.2.sum<=Qpz P:=(Qmb P 0).2 p h
theorem Qx1 (P:List Q0l):0<=Qpz P:=(Qmb P 0).1
def Qx2 (a b:Q0l):Q0l:=(a.1*b.1,List.zipWith (·+·) a.2 b.2)
def Qg3 (a b:List Q0l):List Q0l:=a.flatMap fun x=>b.map (Qx2 x)
def Qhq (a b:List Q0l):Except Int (List Q0l):=
 if a≠[]/\b≠[]/\8<Qpz a+Qpz b then .error 6
 else if (Qg3 a b).any (fun p=> !Qa4 p.1)=true then .error 2
 else Q3q (Qg3 a b)
theorem Qkf:∀(x y:List Int),x.length=y.length->(List.zipWith (·+·) x y).sum=x.sum+y.sum
 |[],[],_=>rfl
 |a::x,b::y,h=>by
  have:=Qkf x y (by simpa using h);simp only[Xaz,Xbp,this];omega
theorem Qkg:∀(x y:List Int),(∀a∈x,0<=a)->(∀a∈y,0<=a)->∀a∈List.zipWith (·+·) x y,0<=a
 |[],_,_,_,a,h=>by simp at h
 |_::_,[],_,_,a,h=>by simp at h
 |a::x,b::y,hx,hy,c,h=>by
  rw[Xaz] at h;rcases UG.1 h with rfl|h
  ·have:=hx a (by simp);have:=hy b (by simp);omega
  ·exact Qkg x y (fun z hz=>hx z (by simp[hz])) (fun z hz=>hy z (by simp[hz])) c h
theorem Qo0 {n:Nat} {a b:List Q0l} (ha:Q56 n a) (hb:Q56 n b) (hd:¬(a≠[]/\b≠[]/\8<Qpz a+Qpz b)):∀p∈Qg3 a b,Q10 n p.2:=by
 intro p hp;obtain ⟨x,hx,hp⟩:=List.mem_flatMap.1 hp;obtain ⟨y,hy,rfl⟩:=Tx.1 hp;obtain ⟨_,_,S4,Q3,VH⟩:=ha.2.2 x hx;obtain ⟨_,_,X8,M9,hy3⟩:=hb.2.2 y hy;refine ⟨by simp[Qx2,S4,X8],Qkg _ _ Q3 M9,?_⟩
 show (List.zipWith (·+·) x.2 y.2).sum<=8
 rw[Qkf _ _ (S4.trans X8.symm)];have h1:=Qqr hx;have h2:=Qqr hy;have h3:¬8<Qpz a+Qpz b:=fun h=>hd ⟨fun e=>(by rw[e] at hx;cases hx),fun e=>(by rw[e] at hy;cases hy),h⟩;omega
def Qkh (p:List Q0l):Nat->Except Int (List Q0l)
 |0=>.ok p
 |k+1=>match Qkh p k with
  | .error e=>.error e
  | .ok q=>Qhq q p
def Qmc (n:Nat) (p:List Q0l) (k:Nat):Except Int (List Q0l):=
 match k with
 |0=>.ok [(1,List.replicate n 0)]
 |k+1=>Qkh p k
inductive Ex where
 |num (c:Option Dyadic)
 |var (i:Nat)
 |sum (l:List (Bool × Ex))
 |prod (l:List Ex)
 |pow (b:Ex) (k:Nat)
def Qb9 (n i:Nat):List Int:=(List.replicate n 0).set i 1
mutual
def Q2b (n:Nat):Ex->Except Int (List Q0l)
 | .num none=>.error 2
 | .num (some c)=>Q3q [(c,List.replicate n 0)]
 | .var i=>Q3q [(1,Qb9 n i)]
 | .sum l=>Q4t n none l
 | .prod l=>Q4l n none l
 | .pow b k=>match Q2b n b with
   | .error e=>.error e
   | .ok p=>Qmc n p k
def Q4t (n:Nat) (acc:Option (List Q0l)):List (Bool × Ex)->Except Int (List Q0l)
 |[]=>.ok (acc.getD [])
 |(b,t)::r=>match Q2b n t with
  | .error e=>.error e
  | .ok p=>match acc with
    |none=>Q4t n (some (if b then Q96 p else p)) r
    |some q=>match Qui q (if b then Q96 p else p) with
     | .error e=>.error e
     | .ok q'=>Q4t n (some q') r
def Q4l (n:Nat) (acc:Option (List Q0l)):List Ex->Except Int (List Q0l)
 |[]=>.ok (acc.getD [])
 |t::r=>match Q2b n t with
  | .error e=>.error e
  | .ok p=>match acc with
    |none=>Q4l n (some p) r
    |some q=>match Qhq q p with
     | .error e=>.error e
     | .ok q'=>Q4l n (some q') r
end
end Go.Proofs.YtidojbkhlenahaaGreatDoor
namespace Go.Proofs.YtidojbkhlenahaaGreatDoor
namespace DecM
open WordsM
abbrev dec (n:Nat):LU:=Lib.decDigits n
def pd:Nat->Nat->LU
 |0,_=>[]
 |k+1,r=>pd k (r / 10)++[UInt8.ofNat (48+r%10)]
theorem Q1t {n:Nat} (h:n<10):dec n=[UInt8.ofNat (48+n)]:=by
 rw[dec,Lib.decDigits,dif_pos h]
theorem Q6t {n:Nat} (h:¬n<10):dec n=dec (n / 10)++[UInt8.ofNat (48+n%10)]:=by
 rw[dec,Lib.decDigits,dif_neg h]
theorem Qwe (q:Nat) (hq:0<q):∀k r,r<10^k->dec (q*10^k+r)=dec q++pd k r
 |0,r,h=>by
  obtain rfl:r=0:=by simpa using h
  simp[pd]
 |k+1,r,h=>by
  have hp:10<=q*10^(k+1):=by
   have h1:1<=10^k:=Tv (by decide);have h2:1*1<=q*10^k:=Nat.mul_le_mul hq h1;rw[Tg,<-UM];omega
  have e1:(q*10^(k+1)+r) / 10=q*10^k+r / 10:=by
   rw[Tg,<-UM];omega
  have e2:(q*10^(k+1)+r)%10=r%10:=by
   rw[Tg,<-UM];omega
  have h3:r / 10<10^k:=by rw[Tg] at h;omega
  rw[Q6t (by omega),e1,e2,Qwe q hq k (r / 10) h3,pd,UN]
theorem Qqs:∀k,pd k 0=List.replicate k 48
 |0=>rfl
 |k+1=>by
  rw[pd,Nat.zero_div,Qqs k,List.replicate_succ'];rfl
theorem Q2z (n:Nat):1<=(dec n).length:=by
 by_cases h:n<10
 ·rw[Q1t h];simp
 ·rw[Q6t h];simp
theorem dec_len (j:Nat):∀n,n<10^j->1<=j->(dec n).length<=j:=by
 induction j with
 |zero=>intro n _ h;omega
 |succ j ih=>
  intro n hn _
  by_cases h:n<10
  ·rw[Q1t h];simp
  ·rw[Q6t h];have hj:1<=j:=by
    rcases Xa5 j with rfl|h1
    ·simp at hn;omega
    ·exact h1
   have:=ih (n / 10) (by rw[Tg] at hn;omega) hj;simp only[Uh,Xas];omega
theorem Qwf:∀k r,1<=k->r<10^k->pd k r=List.replicate (k-(dec r).length) 48++dec r
 |0,_,h,_=>by omega
 |k+1,r,_,hr=>by
  by_cases h:r<10
  ·rw[Q1t h,pd,Xap h,Xaj h,Qqs];simp
  ·have hk:1<=k:=by
    rcases Xa5 k with rfl|h1
    ·simp at hr;omega
    ·exact h1
   rw[pd,Qwf k (r / 10) hk (by rw[Tg] at hr;omega),Q6t h,UN];simp
def dv (l:LU):Nat:=l.foldl (fun a b=>10*a+(b.toNat-48)) 0
theorem Qx3 (l:LU):∀a,l.foldl (fun a b=>10*a+(b.toNat-48)) a=a*10^l.length+dv l:=by
 induction l with
 |nil=>intro a;simp[dv]
 |cons c r ih=>
  intro a;have h1:=ih (10*a+(c.toNat-48));have h2:=ih (10*0+(c.toNat-48));simp only[Xbg,dv,Um,Tg] at h1 h2⊢;rw[h1,h2,Tl,Tl,UA 10 a,UM,UA 10 (10^r.length)];omega
theorem Qhr (l r:LU):dv (l++r)=dv l*10^r.length+dv r:=by
 rw[dv,List.foldl_append];exact Qx3 r _
theorem Qqt (l:LU) (c:UInt8):dv (l++[c])=10*dv l+(c.toNat-48):=by
 rw[Qhr];simp[dv];omega
theorem Q4z (d:Nat) (h:d<10):(UInt8.ofNat (48+d)).toNat=48+d:=by
 rw[UInt8.toNat_ofNat'];omega
theorem Qmd (n:Nat):dv (dec n)=n:=by
 induction n using Nat.strongRecOn with
 |ind n ih=>
  by_cases h:n<10
  ·rw[Q1t h];simp[dv];omega
  ·rw[Q6t h,Qqt,ih (n / 10) (by omega),Q4z _ (TP _ (by decide))];omega
def Qk4 (l:LU):Prop:=∀c∈l,48<=c.toNat/\c.toNat<=57
theorem Qhs (l:LU) (h:Qk4 l):dv l<10^l.length:=by
 rcases List.eq_nil_or_concat l with rfl|⟨r,c,rfl⟩
 ·simp[dv]
 ·rw[List.concat_eq_append] at h⊢;have h1:=Qhs r fun x hx=>h x (by simp[hx]);have h2:=h c (by simp);rw[Qqt,Uh,Xas,Tg];omega
termination_by l.length
decreasing_by simp_all
theorem Q4m (n:Nat):Qk4 (dec n):=by
 induction n using Nat.strongRecOn with
 |ind n ih=>
  intro c hc
  by_cases h:n<10
  ·rw[Q1t h,UC] at hc;subst hc;rw[Q4z n h];omega
  ·rw[Q6t h] at hc;rcases Tp.1 hc with hc|hc
   ·exact ih (n / 10) (by omega) c hc
   ·rw[UC] at hc;subst hc;rw[Q4z _ (TP _ (by decide))];omega
theorem Qg4 (n:Nat) (hn:n≠0):(dec n).headD 0≠48:=by
 induction n using Nat.strongRecOn with
 |ind n ih=>
  by_cases h:n<10
  ·rw[Q1t h]
   show UInt8.ofNat (48+n)≠48
   intro e;have:=congrArg UInt8.toNat e;rw[Q4z n h] at this;have h2:(48:UInt8).toNat=48:=rfl;omega
  ·rw[Q6t h];have h1:=ih (n / 10) (by omega) (by omega);have h2:=Q2z (n / 10);cases hd:dec (n / 10) with
   |nil=>rw[hd] at h2;simp at h2
   |cons x r=>rw[hd] at h1;simpa using h1
def digN:LU->Nat
 |[]=>0
 |c::r=>if 48<=c.toNat/\c.toNat<=57 then digN r+1 else 0
theorem Qch:∀l,digN l<=l.length
 |[]=>Uf _
 |c::r=>by
  have:=Qch r;simp only[digN,Um]
  split <;> omega
theorem Qht:∀(l:LU) (k:Nat),k<=l.length->(∀j c,l[j]?=some c->j<k->48<=c.toNat/\c.toNat<=57)->(∀c,l[k]?=some c->¬(48<=c.toNat/\c.toNat<=57))->digN l=k
 |[],k,h,_,_=>by simp at h;simp[digN,h]
 |c::r,0,_,_,h3=>by
  have:=h3 c rfl;simp[digN,this]
 |c::r,k+1,h1,h2,h3=>by
  have hc:=h2 0 c rfl (by omega);have:=Qht r k (by simpa using h1) (fun j x hx hj=>h2 (j+1) x (by simpa using hx) (by omega)) (fun x hx=>h3 x (by simpa using hx));simp[digN,hc,this]
theorem Q7h:∀l:LU,Qk4 (l.take (digN l))
 |[]=>fun c hc=>by simp at hc
 |c::r=>by
  simp only[digN]
  split
  ·rename_i h;intro x hx;rw[List.take_succ_cons] at hx;rcases UG.1 hx with rfl|hx
   ·exact h
   ·exact Q7h r x hx
  ·intro x hx;simp at hx
theorem Qbn (l r:LU) (h:Qk4 l):digN (l++r)=l.length+digN r:=by
 induction l with
 |nil=>simp
 |cons c l ih=>
  have h1:=h c (by simp);have h2:=ih fun x hx=>h x (by simp[hx]);simp[digN,h1,h2];omega
def Q2o:LU->Bool × LU
 |[]=>(false,[])
 |c::r=>if c=45 then (true,r) else (false,c::r)
def Qea:LU->Option Int
 |[]=>some 0
 |c::r=>if c≠112 then none else
  if (Q2o r).2.length<1∨6<(Q2o r).2.length∨digN (Q2o r).2<(Q2o r).2.length∨(Q2o r).2.headD 0=48 then none
  else some (if (Q2o r).1=true then -(dv (Q2o r).2:Int) else (dv (Q2o r).2:Int))
def form (s:LU):Option (Bool × Nat × Int):=
 if digN (Q2o s).2<1∨1300<digN (Q2o s).2∨((Q2o s).2.headD 0=48/\((Q2o s).1=true∨1<(Q2o s).2.length)) then none
 else match Qea ((Q2o s).2.drop (digN (Q2o s).2)) with
  |none=>none
  |some e=>some ((Q2o s).1,dv ((Q2o s).2.take (digN (Q2o s).2)),e)
theorem Qhu (l:LU) (h:Qk4 l) (r:LU) (hl:l≠[]):Q2o (l++r)=(false,l++r):=by
 cases l with
 |nil=>exact absurd rfl hl
 |cons c l=>
  have h1:=h c (by simp);have h2:c≠45:=by
   rintro rfl;have:(45:UInt8).toNat=45:=rfl;omega
  simp[Q2o,h2]
def Q9y (e:Int):LU:=if e=0 then [] else 112::(if e<0 then 45::dec e.natAbs else dec e.natAbs)
theorem Qqu (e:Int) (h: -65536<=e) (h2:e<=65536):Qea (Q9y e)=some e:=by
 unfold Q9y
 by_cases h0:e=0
 ·rw[Uu h0,h0];rfl
 ·rw[Us h0];have Yj:e.natAbs≠0:=by omega
  have i5:=Q2z e.natAbs;have o7:=dec_len 6 e.natAbs (by have:(10:Nat)^6=1000000:=rfl;omega) (by decide);have hd:=Qbn (dec e.natAbs) [] (Q4m _);rw[Xaf] at hd;simp only[digN,TD] at hd;have hh:=Qg4 e.natAbs Yj
  by_cases X5:e<0
  ·rw[Uu X5];have hm:Q2o (45::dec e.natAbs)=(true,dec e.natAbs):=rfl;rw[Qea,Us (by simp),hm];simp only;rw[Us (by rintro (h|h|h|h) <;> first|omega|exact hh h),Uu trivial,Qmd]
   congr 1;omega
  ·rw[Us X5];have hm:Q2o (dec e.natAbs)=(false,dec e.natAbs):=by
    have:=Qhu (dec e.natAbs) (Q4m _) [] (fun e'=>by rw[e'] at i5;simp at i5);rwa[Xaf] at this
   rw[Qea,Us (by simp),hm];simp only;rw[Us (by rintro (h|h|h|h) <;> first|omega|exact hh h),Us (by simp),Qmd]
   congr 1;omega
theorem Qqv (e:Int):digN (Q9y e)=0:=by
 unfold Q9y
 split
 ·rfl
 ·rw[digN,Us];decide
def Q21 (neg:Bool) (v:Nat) (e:Int):LU:=(if neg=true then [45] else [])++(dec v++Q9y e)
theorem Qhv (neg:Bool) (v:Nat) (e:Int) (h: -65536<=e) (h2:e<=65536) (hv:v<10^1300) (h0:v=0->neg=false/\e=0):form (Q21 neg v e)=some (neg,v,e):=by
 have i5:=Q2z v;have o7:=dec_len 1300 v hv (by decide);have P0:dec v≠[]:=fun e'=>by rw[e'] at i5;simp at i5
 have hm:Q2o (Q21 neg v e)=(neg,dec v++Q9y e):=by
  cases neg
  ·exact Qhu (dec v) (Q4m v) (Q9y e) P0
  ·rfl
 have hd:=Qbn (dec v) (Q9y e) (Q4m v);rw[Qqv,TD] at hd;unfold form;rw[hm];simp only;rw[hd,List.drop_left,List.take_left,Qqu e h h2,Qmd,Us];rintro (h3|h3|⟨h3,h4⟩)
 ·omega
 ·omega
 ·have hh:(dec v++Q9y e).headD 0=(dec v).headD 0:=by
   cases hc:dec v with
   |nil=>exact absurd hc P0
   |cons x r=>rfl
  rw[hh] at h3
  by_cases x8:v=0
  ·obtain ⟨h5,h6⟩:=h0 x8;subst x8;subst h6;rcases h4 with h4|h4
   ·rw[h5] at h4;cases h4
   ·rw[Q1t (by decide)] at h4;simp[Q9y] at h4
  ·exact Qg4 v x8 h3
end DecM
open DecM Go.RowKit WordsM
def Q08 (s:LU) (p:Nat):UInt8:=s.getD p 0
theorem Q67 {s:LU} {p:Nat} (h:Q08 s p≠0):p<s.length:=by
 refine Xak fun B5=>h ?_;unfold Q08;rw[Te,UU B5];rfl
theorem Q0k {s:LU} {p:Nat} {c:UInt8} (h:Q08 s p=c) (hc:c≠0):p<s.length:=Q67 (by rw[h];exact hc)
def Q8j:LU->Nat
 |[]=>0
 |c::r=>if c=32 then Q8j r+1 else 0
def Q05 (s:LU) (p:Nat):Nat:=p+Q8j (s.drop p)
theorem Qme:∀l,Q8j l<=l.length
 |[]=>Uf _
 |c::r=>by
  have:=Qme r;simp only[Q8j,Um]
  split <;> omega
theorem Q5z (s:LU) (p:Nat):p<=Q05 s p:=Nat.le_add_right _ _
theorem Q3a {s:LU} {p:Nat} (h:p<=s.length):Q05 s p<=s.length:=by
 have:=Qme (s.drop p);rw[Tu] at this;unfold Q05;omega
theorem Q68 {s:LU} {p:Nat} (h:Q08 s p=32):Q05 s p=Q05 s (p+1):=by
 have hp:=Q0k h (by decide);unfold Q05;rw[UB hp];have hc:s[p]=32:=by
  unfold Q08 at h;rw[Te,Ub hp] at h;exact h
 rw[Q8j,Uu hc];omega
theorem Q7i {s:LU} {p:Nat} (h:Q08 s p≠32):Q05 s p=p:=by
 unfold Q05
 by_cases hp:p<s.length
 ·rw[UB hp];have hc:s[p]≠32:=by
   unfold Q08 at h;rw[Te,Ub hp] at h;exact h
  rw[Q8j,Us hc];rfl
 ·rw[Tc (by omega)];rfl
theorem Q97 (s:LU) (p:Nat):Q05 s (Q05 s p)=Q05 s p:=by
 have key:∀n p,s.length-p=n->Q05 s (Q05 s p)=Q05 s p:=by
  intro n
  induction n using Nat.strongRecOn with
  |ind n ih=>
   intro p hn
   by_cases h:Q08 s p=32
   ·have hp:=Q0k h (by decide);rw[Q68 h];exact ih (s.length-(p+1)) (by omega) (p+1) rfl
   ·rw[Q7i h,Q7i h]
 exact key _ p rfl
abbrev PR (α:Type):=Except Nat (α × Nat)
def Q1k (s:LU) (p:Nat):Nat:=p+digN (s.drop p)
theorem Qci {s:LU} {p:Nat} (h:p<=s.length):p<=Q1k s p/\Q1k s p<=s.length:=by
 have:=Qch (s.drop p);rw[Tu] at this;unfold Q1k;omega
def Qba (s:LU) (p:Nat):Nat:=
 if Q08 s (Q1k s p)=112 then (if Q08 s (Q1k s p+1)=45 then Q1k s (Q1k s p+2) else Q1k s (Q1k s p+1)) else Q1k s p
theorem Qwg {s:LU} {p:Nat} (h:p<=s.length):Q1k s p<=Qba s p/\Qba s p<=s.length:=by
 have h1:=Qci h;unfold Qba
 split
 ·rename_i h2;have h3:=Q0k h2 (by decide)
  split
  ·rename_i h4;have h5:=Q0k h4 (by decide);have:=Qci (s:=s) (p:=Q1k s p+2) (by omega);omega
  ·have:=Qci (s:=s) (p:=Q1k s p+1) (by omega);omega
 ·omega
def Qki (s:LU) (p:Nat):PR Ex:=
 match form ((s.drop p).take (Qba s p-p)) with
 |none=>.error p
 |some (neg,v,e)=>.ok (.num (if Qa4 (dy (sgn neg v) e)=true then some (dy (sgn neg v) e) else none),Qba s p)
def Q69 (sub:Nat->PR Ex) (opens:Bool) (s:LU) (most:Nat) (p0:Nat):PR Ex:=
 if 48<=(Q08 s (Q05 s p0)).toNat/\(Q08 s (Q05 s p0)).toNat<=57 then Qki s (Q05 s p0)
 else if Q08 s (Q05 s p0)=120 then
  (if 49<=(Q08 s (Q05 s p0+1)).toNat/\(Q08 s (Q05 s p0+1)).toNat<=48+most then .ok (.var ((Q08 s (Q05 s p0+1)).toNat-49),Q05 s p0+2) else .error (Q05 s p0+1))
 else if Q08 s (Q05 s p0)=40/\opens=true then
  match sub (Q05 s p0+1) with
  | .error e=>.error e
  | .ok (x,q)=>if Q08 s (Q05 s q)=41 then .ok (x,Q05 s q+1) else .error (Q05 s q)
 else .error (Q05 s p0)
def Q2s (sub:Nat->PR Ex) (opens:Bool) (s:LU) (most:Nat) (p:Nat):PR Ex:=
 match Q69 sub opens s most p with
 | .error e=>.error e
 | .ok (b,q)=>if Q08 s (Q05 s q)=94 then
    (if 48<=(Q08 s (Q05 s (Q05 s q+1))).toNat/\(Q08 s (Q05 s (Q05 s q+1))).toNat<=56 then .ok (.pow b ((Q08 s (Q05 s (Q05 s q+1))).toNat-48),Q05 s (Q05 s q+1)+1) else .error (Q05 s (Q05 s q+1)))
   else .ok (b,Q05 s q)
def Q57 (sub:Nat->PR Ex) (opens:Bool) (s:LU) (most:Nat):Nat->Nat->List Ex->PR Ex
 |0,p,_=>.error p
 |f+1,p,acc=>match Q2s sub opens s most p with
  | .error e=>.error e
  | .ok (x,q)=>if Q08 s (Q05 s q)=42 then Q57 sub opens s most f (Q05 s q+1) (acc++[x]) else .ok (.prod (acc++[x]),Q05 s q)
def Qbb (sub:Nat->PR Ex) (opens:Bool) (s:LU) (most:Nat):Nat->Nat->Bool->List (Bool × Ex)->PR Ex
 |0,p,_,_=>.error p
 |f+1,p,below,acc=>match Q57 sub opens s most (s.length+1) p [] with
  | .error e=>.error e
  | .ok (x,q)=>if Q08 s (Q05 s q)=43 then Qbb sub opens s most f (Q05 s q+1) false (acc++[(below,x)])
    else if Q08 s (Q05 s q)=45 then Qbb sub opens s most f (Q05 s q+1) true (acc++[(below,x)])
    else .ok (.sum (acc++[(below,x)]),Q05 s q)
def Q7j (sub:Nat->PR Ex) (opens:Bool) (s:LU) (most:Nat) (p:Nat):PR Ex:=
 if Q08 s (Q05 s p)=45 then Qbb sub opens s most (s.length+1) (Q05 s p+1) true [] else Qbb sub opens s most (s.length+1) (Q05 s p) false []
def Q84 (s:LU) (most:Nat):Nat->Nat->PR Ex
 |0=>Q7j (fun q=>.error q) false s most
 |d+1=>Q7j (Q84 s most d) true s most
def Q6a (s:LU) (p:Nat) (r:PR Ex):Prop:=
 match r with
 | .error e=>e<=s.length
 | .ok (_,q)=>p<q/\q<=s.length
theorem Qqw {s:LU} {p:Nat} (hp:p<=s.length):Q6a s p (Qki s p):=by
 have h1:=Qwg hp;have h2:=Qci hp;unfold Qki
 split
 ·exact hp
 ·rename_i neg v e hf;refine ⟨?_,h1.2⟩;refine Xak fun B5=>?_;rw[show Qba s p-p=0 by omega,List.take_zero,show form []=none by decide] at hf;cases hf
theorem Qo1 {sub:Nat->PR Ex} {opens:Bool} {s:LU} {most:Nat} (hs:opens=true->∀p,p<=s.length->Q6a s p (sub p)) {p:Nat} (hp:p<=s.length):Q6a s p (Q69 sub opens s most p):=by
 have h1:=Q3a hp;have h2:=Q5z s p;unfold Q69
 split
 ·have:=Qqw h1
  revert this
  unfold Q6a
  split
  ·exact id
  ·intro h;omega
 ·split
  ·rename_i h3;have h4:=Q0k h3 (by decide)
   split
   ·rename_i h5;have h6:Q05 s p+1<s.length:=Q67 (fun e=>by rw[e] at h5;exact absurd h5.1 (by decide))
    show p<Q05 s p+2/\_
    omega
   ·show Q05 s p+1<=s.length
    omega
  ·split
   ·rename_i h3;have h4:=Q0k h3.1 (by decide);have h5:=hs h3.2 (Q05 s p+1) (by omega)
    revert h5
    cases sub (Q05 s p+1) with
    |error e=>exact id
    |ok r=>
     obtain ⟨x,q⟩:=r;intro h5;have I7:Q05 s p+1<q/\q<=s.length:=h5;have h6:=Q3a I7.2;have h7:=Q5z s q;simp only
     split
     ·rename_i h8;have h9:=Q0k h8 (by decide)
      show p<Q05 s q+1/\_
      omega
     ·show Q05 s q<=s.length
      exact h6
   ·exact h1
theorem Qax {sub:Nat->PR Ex} {opens:Bool} {s:LU} {most:Nat} (hs:opens=true->∀p,p<=s.length->Q6a s p (sub p)) {p:Nat} (hp:p<=s.length):Q6a s p (Q2s sub opens s most p):=by
 have h5:=Qo1 (most:=most) hs hp;unfold Q2s
 revert h5
 cases Q69 sub opens s most p with
 |error e=>exact id
 |ok r=>
  obtain ⟨x,q⟩:=r;intro h5;have I7:p<q/\q<=s.length:=h5;have h6:=Q3a I7.2;have h7:=Q5z s q;simp only
  split
  ·rename_i h8;have h9:=Q0k h8 (by decide);have L8:=Q3a (s:=s) (p:=Q05 s q+1) (by omega);have VN:=Q5z s (Q05 s q+1)
   split
   ·rename_i QN;have XR:Q05 s (Q05 s q+1)<s.length:=Q67 (fun e=>by rw[e] at QN;exact absurd QN.1 (by decide))
    show p<Q05 s (Q05 s q+1)+1/\_
    omega
   ·exact L8
  ·show p<Q05 s q/\_
   omega
theorem Qa5 {sub:Nat->PR Ex} {opens:Bool} {s:LU} {most:Nat} (hs:opens=true->∀p,p<=s.length->Q6a s p (sub p)):∀(f:Nat) {p:Nat} (acc:List Ex),p<=s.length->Q6a s p (Q57 sub opens s most f p acc)
 |0,p,acc,hp=>hp
 |f+1,p,acc,hp=>by
  have h5:=Qax (most:=most) hs hp;unfold Q57
  revert h5
  cases Q2s sub opens s most p with
  |error e=>exact id
  |ok r=>
   obtain ⟨x,q⟩:=r;intro h5;have I7:p<q/\q<=s.length:=h5;have h6:=Q3a I7.2;have h7:=Q5z s q;simp only
   split
   ·rename_i h8;have h9:=Q0k h8 (by decide);have:=Qa5 (most:=most) hs f (p:=Q05 s q+1) (acc++[x]) (by omega)
    revert this
    unfold Q6a
    split
    ·exact id
    ·intro h;omega
   ·show p<Q05 s q/\_
    omega
theorem Q98 {sub:Nat->PR Ex} {opens:Bool} {s:LU} {most:Nat} (hs:opens=true->∀p,p<=s.length->Q6a s p (sub p)):∀(f:Nat) {p:Nat} (below:Bool) (acc:List (Bool × Ex)),p<=s.length->Q6a s p (Qbb sub opens s most f p below acc)
 |0,p,below,acc,hp=>hp
 |f+1,p,below,acc,hp=>by
  have h5:=Qa5 (most:=most) hs (s.length+1) [] hp;unfold Qbb
  revert h5
  cases Q57 sub opens s most (s.length+1) p [] with
  |error e=>exact id
  |ok r=>
   obtain ⟨x,q⟩:=r;intro h5;have I7:p<q/\q<=s.length:=h5;have h6:=Q3a I7.2;have h7:=Q5z s q;simp only
   split
   ·rename_i h8;have h9:=Q0k h8 (by decide);have:=Q98 (most:=most) hs f (p:=Q05 s q+1) false (acc++[(below,x)]) (by omega)
    revert this
    unfold Q6a
    split
    ·exact id
    ·intro h;omega
   ·split
    ·rename_i h8;have h9:=Q0k h8 (by decide);have:=Q98 (most:=most) hs f (p:=Q05 s q+1) true (acc++[(below,x)]) (by omega)
     revert this
     unfold Q6a
     split
     ·exact id
     ·intro h;omega
    ·show p<Q05 s q/\_
     omega
theorem Qcj {sub:Nat->PR Ex} {opens:Bool} {s:LU} {most:Nat} (hs:opens=true->∀p,p<=s.length->Q6a s p (sub p)) {p:Nat} (hp:p<=s.length):Q6a s p (Q7j sub opens s most p):=by
 have h6:=Q3a hp;have h7:=Q5z s p;unfold Q7j
 split
 ·rename_i h8;have h9:=Q0k h8 (by decide);have:=Q98 (most:=most) hs (s.length+1) (p:=Q05 s p+1) true [] (by omega)
  revert this
  unfold Q6a
  split
  ·exact id
  ·intro h;omega
 ·have:=Q98 (most:=most) hs (s.length+1) (p:=Q05 s p) false [] h6
  revert this
  unfold Q6a
  split
  ·exact id
  ·intro h;omega
theorem Qa6 (s:LU) (most:Nat):∀(d p:Nat),p<=s.length->Q6a s p (Q84 s most d p)
 |0,p,hp=>Qcj (fun h=>by cases h) hp
 |d+1,p,hp=>Qcj (fun _ p hp=>Qa6 s most d p hp) hp
def Q2e (s:LU):LU->Nat->Except Nat Nat
 |[],p=>.ok p
 |c::r,p=>if Q08 s p=c then Q2e s r (p+1) else .error p
def Q3f (i:Nat):LU:=120::(dec (i+1)++[39,32,61,32])
def Qg5 (s:LU) (most i p:Nat):PR Ex:=
 match Q2e s (Q3f i) p with
 | .error e=>.error e
 | .ok p1=>match Q84 s most 16 p1 with
   | .error e=>.error e
   | .ok (x,q)=>if Q08 s (Q05 s q)=10 then .ok (x,Q05 s q+1) else .error (Q05 s q)
def Q4s (s:LU) (most:Nat):Nat->Nat->List (Nat × Ex)->Except Nat (List (Nat × Ex))
 |0,p,_=>.error p
 |f+1,p,acc=>match Qg5 s most acc.length p with
  | .error e=>.error e
  | .ok (x,q)=>if q<s.length then Q4s s most f q (acc++[(p,x)]) else .ok (acc++[(p,x)])
def Q30 (n:Nat):List (Nat × Ex)->List (List Q0l)->Except (Nat × Int) (List (List Q0l))
 |[],acc=>.ok acc
 |(p,x)::r,acc=>match Q2b n x with
  | .error e=>.error (p,e)
  | .ok P=>Q30 n r (acc++[P])
def Q99 (s:LU):Except (Nat × Int) (List (List Q0l)):=
 match Q4s s (min (s.count 10) 4) 4 0 [] with
 | .error p=>.error (p,5)
 | .ok l=>Q30 l.length l []
end Go.Proofs.YtidojbkhlenahaaGreatDoor
