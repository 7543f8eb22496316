/- Part 5 of the proof of LawParseMeans: RefE, RefF, Box3, NumA. Condition: as each theorem says; none at the end. -/
import Derived.Test.YtdilmfakkppgpaaGreatDoorPkParseMeans04
set_option maxRecDepth 100000
set_option maxHeartbeats 16000000
namespace Go.Proofs.YtdilmfakkppgpaaGreatDoor
open Go.RowKit WordsM
theorem Qtp (l:List Nat):NatM.val l=val (2^32) l:=by
 induction l with
 |nil=>rfl
 |cons x r ih=>simp only[NatM.val,val,ih]
theorem Qa0 (l:List Nat):NatM.trimL l=trimL l:=by
 induction h:l.length generalizing l with
 |zero=>obtain rfl:=List.length_eq_zero_iff.1 h;rfl
 |succ n ih=>
  rcases List.eq_nil_or_concat l with rfl|⟨r,x,rfl⟩
  ·simp at h
  ·rw[List.concat_eq_append] at h⊢
   by_cases h0:x=0
   ·subst h0
    rw[NatM.trim_snoc_zero,Q3a]
    exact ih r (by simpa using h)
   ·rw[NatM.trim_snoc x h0,Q4i r h0]
structure Q0l (w:World) (a:Option Addr) (n c:Nat) (v:Nat):Prop where
 len:(dig (2^32) v).length=n
 cap:n<=c
 most:c<=9223372036854775807
 rd:RdI .u32 w w.heap.size a (dig (2^32) v)
theorem Q0l.step {w w':World} {a:Option Addr} {n c v:Nat} (h:Q0l w a n c v) (hb:Below w.heap.size w w'):Q0l w' a n c v:=⟨h.len,h.cap,h.most,h.rd.step hb⟩
theorem Q4n (a:Option Addr) (n c:Nat) (ls:List Nat) (w:World) (hn:ls.length=n) (hc:n<=c) (hc':c<=9223372036854775807) (h:RdI .u32 w w.heap.size a ls) (hl:Low (2^32) ls):
 Calls Tryz.prog 103 #[.slice a n c] w fun e w'=>∃n',e=.returned (.slice a n' n')/\n'<=n/\Q0l w' a n' n' (val (2^32) ls)/\w=w':=by
 refine (Qal a n c ls w hn hc hc' h).mono ?_
 rintro e w' ⟨rfl,rfl⟩
 have h1:NatM.trimL ls=dig (2^32) (val (2^32) ls):=by rw[Qa0,Q1j (by decide) hl]
 have h2:=trim_len ls
 rw[<-Qa0,h1,hn] at h2
 rw[h1]
 refine ⟨_,rfl,h2,⟨rfl,Nat.le_refl _,by omega,?_⟩,rfl⟩
 rw[<-h1,Qa0,<-Q3y ls]
 exact h.front _
theorem Qa1 {B:Nat} (hB:0<B) {l:List Nat} (h:Low B l) (i:Nat):l[i]?.getD 0<B:=by
 cases hx:l[i]? with
 |none=>exact hB
 |some x=>exact h x (List.mem_of_getElem? hx)
theorem Q4y {B:Nat} (l:List Nat) (i:Nat):val B (l.take (i+1))=val B (l.take i)+B^i*l[i]?.getD 0:=by
 cases hx:l[i]? with
 |none=>
  have h:l.length<=i:=List.getElem?_eq_none_iff.1 hx
  rw[List.take_of_length_le (by omega),List.take_of_length_le h];simp
 |some x=>exact Q13 l i x hx
theorem Q66 (a:Option Addr) (n c:Nat) (ls:List Nat) (i:Nat) (w:World) {B:Nat} (hn:ls.length=n) (h:RdI .u32 w B a ls) (hl:Low (2^32) ls):
 Calls Tryz.prog 106 #[.slice a n c,.int .i64 (i:Int)] w fun e w'=>e=.returned (.int .u64 ((ls[i]?.getD 0:Nat):Int))/\w=w':=by
 by_cases hlt:i<n
 ·obtain ⟨x,hx⟩:∃x,ls[i]?=some x:=⟨_,List.getElem?_eq_getElem (by omega)⟩
  have hxl:x<4294967296:=hl x (List.mem_of_getElem? hx)
  have hlt':(i:Int)<(n:Int):=by omega
  obtain ⟨b,o,rfl,hbl,hcell⟩:=h.at_ hx
  rw[hx,Option.getD_some]
  clear hx h hl
  go_enter Tryz.func106,Tryz.ntmps106
  go_wp2_with fail
  go_ret
  exact ⟨rfl,rfl⟩
 ·have hlt':¬(i:Int)<(n:Int):=by omega
  rw[List.getElem?_eq_none (by omega),Option.getD_none]
  clear h hl
  go_enter Tryz.func106,Tryz.ntmps106
  go_wp2_with fail
  go_ret
  exact ⟨rfl,rfl⟩
theorem Qrc {B:Nat} {A K L:List Nat} {i cr s:Nat} (hL:L.length=i) (hs:A[i]?.getD 0+K[i]?.getD 0+cr=s) (h:val B L+cr*B^i=val B (A.take i)+val B (K.take i)):
 val B (L++[s%B])+s / B*B^(i+1)=val B (A.take (i+1))+val B (K.take (i+1)):=by
 have h2:(s%B+B*(s / B))*B^i=s*B^i:=by rw[Nat.mod_add_div]
 rw[Nat.add_mul] at h2
 rw[Q9y,hL,Q4y,Q4y,Nat.mul_comm (B^i) (s%B),Nat.mul_comm (B^i),Nat.mul_comm (B^i),Nat.pow_succ,Nat.mul_comm (B^i) B,<-Nat.mul_assoc,Nat.mul_comm (s / B) B]
 have h3:(A[i]?.getD 0+K[i]?.getD 0+cr)*B^i=s*B^i:=by rw[hs]
 rw[Nat.add_mul,Nat.add_mul] at h3
 omega
theorem Q8l (K:IntKind) (x:Int):∀u∈[Value.int K x],u.oneCell'=true:=by
 intro u hu;rw[List.mem_singleton] at hu;subst hu;rfl
theorem Qdm {B:Nat} {l:List Nat} (h:Low B l) {x:Nat} (hx:x<B):Low B (l++[x]):=fun y hy=>by
 rcases List.mem_append.1 hy with h1|h1
 ·exact h y h1
 ·rw[List.mem_singleton] at h1;subst h1;exact hx
theorem Row.rdI {k:IntKind} {w:World} {B:Nat} {e:TypeId} {a:Option Addr} {n c:Nat} {ms:List Nat} (h:Row w B e 1 a n c (ms.map (nv k))):RdI k w w.heap.size a ms:=(Row.rdN (k:=k) (ms:=ms) h).rdI
theorem Qld (a:Option Addr) (n c:Nat) (v:Nat) (b:Option Addr) (m d:Nat) (u:Nat) (w:World) (h1:Q0l w a n c v) (h2:Q0l w b m d u) (hn:n<=100000) (hm:m<=100000):
 Calls Tryz.prog 59 #[.slice a n c,.slice b m d] w fun e w'=>∃a' n',e=.returned (.slice a' n' n')/\Q0l w' a' n' n' (v+u)/\Below w.heap.size w w':=by
 have hvA:val (2^32) (dig (2^32) v)=v:=Q0r (by decide) v
 have hvK:val (2^32) (dig (2^32) u)=u:=Q0r (by decide) u
 have hlA:=Q22 (B:=2^32) (by decide) v
 have hlK:=Q22 (B:=2^32) (by decide) u
 have hA1:=h1.len
 have hK1:=h2.len
 have hr1:=h1.rd
 have hr2:=h2.rd
 obtain ⟨A,hA⟩:∃A,dig (2^32) v=A:=⟨_,rfl⟩
 obtain ⟨K,hK⟩:∃K,dig (2^32) u=K:=⟨_,rfl⟩
 rw[hA] at hvA hlA hA1 hr1
 rw[hK] at hvK hlK hK1 hr2
 obtain ⟨i0,hi0,hz0,hz1,hz2⟩:=info_parts Q6h
 have HI:=Xh4 hi0 hz0 hz1 hz2
 have H:=Xh6 hvA hvK hlA hlK hr1 hr2
 have hdg1:=fun (i:Nat) W (hb:Below w.heap.size w W)=>Q66 a n c A i W hA1 (hr1.below hb) hlA
 have hdg2:=fun (i:Nat) W (hb:Below w.heap.size w W)=>Q66 b m d K i W hK1 (hr2.below hb) hlK
 have HD:=Xh2 hdg1 hdg2
 clear hvA hvK hlA hlK hr1 hr2 hA hK h1 h2 hdg1 hdg2 hi0 hz0 hz1 hz2
 obtain ⟨M,hM,hMn,hMm,hM3⟩:∃M,M=max n m/\n<=M/\m<=M/\M<=100000:=⟨max n m,rfl,by omega,by omega,by omega⟩
 go_enter Tryz.func59,Tryz.ntmps59
 go_wp2_with fail
 go_loopw [5,6,7] (fun ov cv iv wr=>∃(i cr:Nat) (L:List Nat) (ao:Option Addr) (co:Nat),ov=.slice ao i co/\cv=.int .u64 (cr:Int)/\iv=.int .i64 (i:Int)/\cr<=1/\(i<=M∨i=M+1/\cr=0)/\Row wr w.heap.size 152 1 ao i co (L.map (nv .u32))/\L.length=i/\Low (2^32) L/\val (2^32) L+cr*(2^32)^i=val (2^32) (A.take i)+val (2^32) (K.take i)/\Below w.heap.size w wr) (fun _ _ iv _=>M+2-(intOf iv).toNat)
 case atStart=>exact ⟨0,0,[],none,0,rfl,rfl,rfl,by decide,.inl (Nat.zero_le _),Row.nil_ _ _ _ _,rfl,fun x hx=>by simp at hx,by simp[val],Below.refl _ _⟩
 case round=>
  obtain ⟨i,cr,L,ao,co,rfl,rfl,rfl,hcr,hiM,hrow,hLl,hLow,hval,hb⟩:=hrel
  by_cases hend:n<=i/\m<=i/\cr=0
  ·obtain ⟨e1,e2,rfl⟩:=hend
   rw[List.take_of_length_le (by omega),List.take_of_length_le (by omega),(Xo0 H),(Xo1 H),Nat.zero_mul,Nat.add_zero] at hval
   have hT:=Q4n ao i co L wr hLl hrow.cap.1 hrow.cap.2 (Row.rdI hrow) hLow
   rw[hval] at hT
   have HT:=Xh2 hT hb
   have l1:¬(i:Int)<(n:Int):=by omega
   have l2:¬(i:Int)<(m:Int):=by omega
   clear hT hb hval hLow hrow hiM
   go_wp2_with (refine (Xo0 HT).mono ?_;rintro e w1 ⟨n',rfl,hn',hD,rfl⟩;have HD2:=Lib.hid hD;clear hD)
   go_ret
   exact ⟨ao,n',rfl,HD2.out,(Xe1 HT)⟩
  ·have hiM':i<=M:=by omega
   have hc1:=(Xo0 HD) i wr hb
   have hc2:=(Xe1 HD) i wr hb
   have hxl:A[i]?.getD 0<4294967296:=Qa1 (by decide) (Xo2 H) i
   have hyl:K[i]?.getD 0<4294967296:=Qa1 (by decide) (Xo3 H) i
   have hst:=Qrc (B:=2^32) (s:=A[i]?.getD 0+K[i]?.getD 0+cr) hLl rfl hval
   have hfin:i=M->A[i]?.getD 0=0/\K[i]?.getD 0=0:=fun e=>⟨by rw[List.getElem?_eq_none (by omega)];rfl,by rw[List.getElem?_eq_none (by omega)];rfl⟩
   generalize A[i]?.getD 0=x at*
   generalize K[i]?.getD 0=y at*
   obtain ⟨s,hs⟩:∃s,x+y+cr=s:=⟨_,rfl⟩
   have hsI:(cr:Int)+((x:Int)+(y:Int))=(s:Int):=by omega
   have hsl:s<18446744073709551616:=by omega
   have hand:=Qny s hsl
   rw[hs] at hst
   obtain ⟨lo,hlo⟩:∃lo,s%4294967296=lo:=⟨_,rfl⟩
   obtain ⟨hi,hhi⟩:∃hi,s / 4294967296=hi:=⟨_,rfl⟩
   rw[show s%2^32=lo from hlo,show s / 2^32=hi from hhi] at hst
   have hhiI:(s:Int) / 4294967296=(hi:Int):=by omega
   have hlol:lo<4294967296:=by omega
   have hhi1:hi<=1:=by omega
   have hiM2:i+1<=M∨i+1=M+1/\hi=0:=by
    rcases Nat.lt_or_ge i M with h|h
    ·exact .inl h
    ·have:=hfin (by omega);exact .inr (by omega)
   rw[hlo] at hand
   have hbs:=hb.size
   have hba:∀o,Below w.heap.size w (wr.alloc o):=fun o=>hb.alloc hb.size o
   have hbz:∀o,w.heap.size<=(wr.alloc o).heap.size:=fun o=>(hba o).size
   have hrr:∀o,Row (wr.alloc o) w.heap.size 152 1 ao i co (L.map (nv .u32)):=fun o=>hrow.alloc o
   have HH:=Xh6 hst hrr hba hbz hLow hiM2
   have key:(i:Int)<(n:Int)∨(¬(i:Int)<(n:Int)/\(i:Int)<(m:Int))∨(¬(i:Int)<(n:Int)/\¬(i:Int)<(m:Int)/\(0:Int)<(cr:Int)):=by omega
   clear hst hrr hba hbz hLow hiM2 hb hrow hfin hval hs hlo hhi hiM hend hxl hyl
   rcases key with l1|⟨l1,l2⟩|⟨l1,l2,l3⟩
   all_goals
    go_wp2_with (first
     |(go_at_call_of 106 a;refine hc1.mono ?_;rintro e w1 ⟨rfl,rfl⟩)
     |(go_at_call_of 106 b;refine hc2.mono ?_;rintro e w1 ⟨rfl,rfl⟩)
     |(at_builtin;refine Q0o rfl (.tmp 33) (.tmp 37) 54 rfl w _ 152 i0 _ 1 4 Tryz.underlying54 (Xo0 HI) (Xo1 HI) (Xo2 HI) (Xe3 HI) rfl (by decide) w.heap.size ((Xo2 HH) _) ((Xo3 HH) _) ao i co _ rfl ((Xo1 HH) _) ⟨wr.heap.size,0,none⟩ 1 1 [.int .u32 (lo:Int)] rfl rfl (Q2w wr #[.int .u32 (lo:Int)] _ _) (Q8l _ _) (i+1) rfl (by omega) (by omega) ?_;intro a3 c3 w3 ho3 hg3 hb3 hat3;have HO:=Xh2 ho3 hb3;clear ho3 hg3 hb3 hat3))
    refine ⟨⟨i+1,hi,L++[lo],a3,c3,rfl,rfl,by simp,hhi1,(Xe5 HH),?_,by simp[hLl],Qdm (Xo4 HH) hlol,(Xo0 HH),(Xe1 HO)⟩,by simp only[intOf];omega⟩
    rw[List.map_append];exact (Xo0 HO)
theorem Qei {B:Nat} {A K:List Nat} {i x S:Nat} (hx:A[i]?=some x) (h:S=val B (A.take i)*val B K+x*B^i*val B K):S=val B (A.take (i+1))*val B K:=by
 rw[Q13 A i x hx,h,Nat.add_mul,Nat.mul_comm x]
theorem Qej {B V:Nat} {K:List Nat} {i j x y:Nat} (hy:K[j]?=some y):V+x*B^i*val B (K.take j)+x*y*B^(i+j)=V+x*B^i*val B (K.take (j+1)):=by
 rw[Q13 K j y hy,Nat.mul_add,Nat.pow_add,Nat.add_assoc]
 congr 2
 rw[Nat.mul_assoc x (B^i),<-Nat.mul_assoc (B^i) (B^j) y,Nat.mul_comm (B^i*B^j) y]
 simp only[Nat.mul_assoc]
theorem Qnz {T:TypeId} {K:IntKind} {w:World} {g:Nat} {ls:List Nat} (h:Arr T K w g ls) (k:Nat):Arr T K (w.drewN k) g ls:=h
theorem Q1w {B:Nat} {a w:World} (h:Below B a w) (k:Nat):Below B a (w.drewN k):=⟨h.os,h.tape,h.output,h.size,h.block⟩
theorem Qle (a:Option Addr) (n c:Nat) (v:Nat) (b:Option Addr) (m d:Nat) (u:Nat) (w:World) (h1:Q0l w a n c v) (h2:Q0l w b m d u) (hn:n<=100000) (hm:m<=100000):
 Calls Tryz.prog 63 #[.slice a n c,.slice b m d] w fun e w'=>∃a' n',e=.returned (.slice a' n' n')/\Q0l w' a' n' n' (v*u)/\Below w.heap.size w w':=by
 have hvA:val (2^32) (dig (2^32) v)=v:=Q0r (by decide) v
 have hvK:val (2^32) (dig (2^32) u)=u:=Q0r (by decide) u
 have hlA:=Q22 (B:=2^32) (by decide) v
 have hlK:=Q22 (B:=2^32) (by decide) u
 have hA1:=h1.len
 have hK1:=h2.len
 have hr1:=h1.rd
 have hr2:=h2.rd
 obtain ⟨A,hA⟩:∃A,dig (2^32) v=A:=⟨_,rfl⟩
 obtain ⟨K,hK⟩:∃K,dig (2^32) u=K:=⟨_,rfl⟩
 rw[hA] at hvA hlA hA1 hr1
 rw[hK] at hvK hlK hK1 hr2
 subst hA1
 subst hK1
 have H:=Xh4 hvA hvK hlA hlK
 have HR:=Xh2 hr1 hr2
 clear hvA hvK hlA hlK hr1 hr2 hA hK h1 h2
 have hmk:=run_make_row' (P:=Tryz.prog) 54 152 (.int .u32 0) 4 Tryz.underlying54 Q6h rfl .i64 .i64 (A.length+K.length) (by omega) (by omega)
 rw[show ((A.length+K.length:Nat):Int)=(A.length:Int)+(K.length:Int) by omega,Q1y] at hmk
 go_enter Tryz.func63,Tryz.ntmps63
 go_wp2_with fail
 have hB0:Below w.heap.size w (w.alloc (.cells (Array.replicate (A.length+K.length) (nv .u32 0)) 152)):=(Below.refl _ _).alloc (Nat.le_refl _) _
 have hA0:=Arr.zeros w 152 .u32 (A.length+K.length)
 have H0:=Xh2 hB0 hA0
 clear hB0 hA0 hmk
 go_loopw [6] (fun iv wr=>∃(i:Nat) (L:List Nat),iv=.int .i64 (i:Int)/\i<=A.length/\Arr 152 .u32 wr w.heap.size L/\L.length=A.length+K.length/\Low (2^32) L/\val (2^32) L=val (2^32) (A.take i)*val (2^32) K/\(∀t,i+K.length<=t->t<A.length+K.length->L[t]?=some 0)/\Below w.heap.size w wr) (fun iv _=>A.length-(intOf iv).toNat)
 case atStart=>
  refine ⟨0,List.replicate (A.length+K.length) 0,rfl,Nat.zero_le _,(Xe1 H0),by simp,fun x hx=>?_,by rw[Q65];simp[val],fun t _ ht=>?_,(Xo0 H0)⟩
  ·rw[List.eq_of_mem_replicate hx];decide
  ·rw[List.getElem?_replicate];simp[ht]
 case round=>
  obtain ⟨i,L,rfl,hi,hL,hLl,hLow,hval,hzer,hbw⟩:=hrel
  by_cases hlt:i<A.length
  ·have hlt':(i:Int)<(A.length:Int):=by omega
   obtain ⟨x,hx⟩:∃x,A[i]?=some x:=⟨_,List.getElem?_eq_getElem hlt⟩
   obtain ⟨ba,oa,hae,hba,hcx⟩:=((Xo0 HR).below hbw).at_ hx
   have hxl:x<4294967296:=(Xo2 H) x (List.mem_of_getElem? hx)
   subst hae
   have HH:=Xh6 hL hLow hval hbw hx hzer
   clear hL hLow hval hbw hzer hx hcx
   go_wp2_with fail
   go_loopw [7,8] (fun cv jv wr=>∃(j cr:Nat) (L:List Nat),cv=.int .u64 (cr:Int)/\jv=.int .i64 (j:Int)/\j<=K.length/\cr<4294967296/\Arr 152 .u32 wr w.heap.size L/\L.length=A.length+K.length/\Low (2^32) L/\val (2^32) L+cr*(2^32)^(i+j)=val (2^32) (A.take i)*val (2^32) K+x*(2^32)^i*val (2^32) (K.take j)/\(∀t,i+K.length<=t->t<A.length+K.length->L[t]?=some 0)/\Below w.heap.size w wr) (fun _ jv _=>K.length-(intOf jv).toNat)
   case atStart=>exact ⟨0,0,L,rfl,rfl,Nat.zero_le _,by decide,(Xo0 HH),hLl,(Xo1 HH),by rw[(Xo2 HH)];simp[val],(Xe5 HH),(Xo3 HH)⟩
   case round=>
    have HX:=Lib.hid (Xo4 HH)
    clear hLl HH
    obtain ⟨j,cr,L,rfl,rfl,hj,hcr,hL,hLl,hLow,hval,hzer,hbw⟩:=hrel
    by_cases hlj:j<K.length
    ·have hlj':(j:Int)<(K.length:Int):=by omega
     obtain ⟨y,hy⟩:∃y,K[j]?=some y:=⟨_,List.getElem?_eq_getElem hlj⟩
     obtain ⟨z,hz⟩:∃z,L[i+j]?=some z:=⟨_,List.getElem?_eq_getElem (by omega)⟩
     obtain ⟨bb,ob,hbe,hbb,hcy⟩:=((Xe1 HR).below hbw).at_ hy
     obtain ⟨ba',oa',hae',hba',hcx⟩:=((Xo0 HR).below hbw).at_ HX.out
     injection hae' with hae';injection hae' with e1 e2;subst e1 e2
     have hyl:y<4294967296:=(Xe3 H) y (List.mem_of_getElem? hy)
     have hzl:z<4294967296:=hLow z (List.mem_of_getElem? hz)
     subst hbe
     have hms:=(Qjn (B:=4294967296) (by decide) hxl hyl hzl hcr).2.2
     have hst:=Q9z (B:=2^32) (b:=x*y) (c:=cr) hz hval
     rw[Qej hy] at hst
     have hp:x*y<=4294967295*4294967295:=Nat.mul_le_mul (by omega) (by omega)
     obtain ⟨p,hpp⟩:∃p,x*y=p:=⟨_,rfl⟩
     have hpI:(x:Int)*(y:Int)=(p:Int):=by rw[<-hpp];norm_cast
     rw[hpp] at hp hst hms
     obtain ⟨s,hs⟩:∃s,z+p+cr=s:=⟨_,rfl⟩
     have hsI:(cr:Int)+((p:Int)+(z:Int))=(s:Int):=by omega
     have hsl:s<18446744073709551616:=by omega
     have hpl:(p:Int)+(z:Int)<18446744073709551616:=by omega
     have hpl2:(p:Int)<18446744073709551616:=by omega
     rw[hs] at hst hms
     have hand:=Qny s hsl
     obtain ⟨lo,hlo⟩:∃lo,s%4294967296=lo:=⟨_,rfl⟩
     obtain ⟨hi',hhi⟩:∃hi,s / 4294967296=hi:=⟨_,rfl⟩
     rw[show s%2^32=lo from hlo,show s / 2^32=hi' from hhi] at hst
     rw[hlo] at hand
     rw[hhi] at hms
     have hhiI:(s:Int) / 4294967296=(hi':Int):=by omega
     have hlol:lo<4294967296:=by omega
     have hzc:wr.cell? ⟨w.heap.size,i+j,none⟩=some (.int .u32 (z:Int)):=hL.cell hz
     have hzf:wr.frozen? ⟨w.heap.size,i+j,none⟩=false:=hL.frozen _
     have hij:(i:Int)+(j:Int)<(A.length:Int)+(K.length:Int):=by omega
     have HH:=Xh5 hst hL hLow hbw hzer
     clear hst hL hLow hval hbw hzer hs hlo hhi hpp hy hz
     go_wp2_with fail
     go_quiet (fail)
     go_wp2_with fail
     refine ⟨⟨j+1,hi',L.set (i+j) lo,by simp,by simp,by omega,hms,(Qnz (Xo1 HH) nq).set (i+j) lo,by simp[hLl],Q3q (Xo2 HH) hlol,(Xo0 HH),fun t ht1 ht2=>?_,(Q1w (Xo3 HH) nq).setCell (p:=⟨w.heap.size,i+j,none⟩) (Nat.le_refl _) _⟩,by simp only[intOf];omega⟩
     rw[List.getElem?_set_ne (by omega)]
     exact (Xe4 HH) t ht1 ht2
    ·obtain rfl:j=K.length:=by omega
     have hlj':¬((K.length:Int)<(K.length:Int)):=by omega
     have hz0:=hzer (i+K.length) (Nat.le_refl _) (by omega)
     have hzc:wr.cell? ⟨w.heap.size,i+K.length,none⟩=some (.int .u32 0):=hL.cell hz0
     have hzf:wr.frozen? ⟨w.heap.size,i+K.length,none⟩=false:=hL.frozen _
     have hij:(i:Int)+(K.length:Int)<(A.length:Int)+(K.length:Int):=by omega
     have hvs:=Q8j (B:=2^32) L (i+K.length) cr 0 hz0
     rw[Nat.zero_mul,Nat.add_zero,hval,List.take_length] at hvs
     have hvo:=Qei HX.out hvs
     have HH:=Xh5 hvo hL hLow hbw hzer
     clear hvs hvo hval hL hLow hbw hzer hz0
     go_wp2_with fail
     refine ⟨⟨i+1,L.set (i+K.length) cr,by simp,by omega,(Xo1 HH).set _ cr,by simp[hLl],Q3q (Xo2 HH) hcr,(Xo0 HH),fun t ht1 ht2=>?_,(Xo3 HH).setCell (p:=⟨w.heap.size,i+K.length,none⟩) (Nat.le_refl _) _⟩,by simp only[intOf];omega⟩
     rw[List.getElem?_set_ne (by omega)]
     exact (Xe4 HH) t (by omega) ht2
  ·obtain rfl:i=A.length:=by omega
   have hlt':¬((A.length:Int)<(A.length:Int)):=by omega
   rw[List.take_length,(Xo0 H),(Xo1 H)] at hval
   have hT:=Q4n (some ⟨w.heap.size,0,none⟩) (A.length+K.length) (A.length+K.length) L wr hLl (Nat.le_refl _) (by omega) hL.rd hLow
   rw[hval] at hT
   have HE:=Xh2 hT hbw
   clear hT hbw hval hL hLow hzer
   go_wp2_with (refine (Xo0 HE).mono ?_;rintro e w1 ⟨n',rfl,hn',hD,rfl⟩;have HD2:=Lib.hid hD;clear hD)
   go_ret
   exact ⟨_,n',rfl,HD2.out,(Xe1 HE)⟩
theorem Qtq {ls:List Nat} {i x k m:Nat} (h0:val (2^32) (ls.take i)=0) (hx:ls[i]?=some x) (he:x=2^k*(2*m+1)) (hk:k<32):Qhq (val (2^32) ls) (32*i+k):=by
 have hi:i<ls.length:=(List.getElem?_eq_some_iff.1 hx).1
 have hxe:ls[i]=x:=(List.getElem?_eq_some_iff.1 hx).2
 have h1:=Q3b (B:=2^32) ls i
 rw[h0,Nat.zero_add,List.drop_eq_getElem_cons hi,hxe] at h1
 simp only[val] at h1
 obtain ⟨V,hV⟩:∃V,val (2^32) (ls.drop (i+1))=V:=⟨_,rfl⟩
 rw[hV] at h1
 obtain ⟨t,ht⟩:∃t,32=k+(t+1):=⟨31-k,by omega⟩
 have e1:x+2^32*V=2^k*(2*(m+2^t*V)+1):=by
  rw[he,show (2:Nat)^32=2^k*(2^t*2) by rw[<-Nat.pow_succ,<-Nat.pow_add,<-ht],Nat.mul_assoc,<-Nat.mul_add]
  congr 1
  rw[Nat.mul_comm (2^t) 2,Nat.mul_assoc,Nat.mul_add]
  omega
 rw[e1,<-Nat.pow_mul,<-Nat.mul_assoc,<-Nat.pow_add] at h1
 rw[h1]
 have hp:0<2^(32*i+k):=Nat.pow_pos (by decide)
 exact ⟨Nat.mul_mod_right _ _,by rw[Nat.mul_div_cancel_left _ hp];omega⟩
theorem Qrd (q:Nat) (h:q<4294967296):bits BinOp.and IntKind.u32 (q:Int) 1=((q%2:Nat):Int):=
 bits_mask .u32 32 (by decide) (fun n h0 h1=>by rw[IntKind.wrap_u32];omega) 1 (by decide) (q:Int) (by omega) (by omega)
theorem Q67 (a:Option Addr) (n c:Nat) (v:Nat) (w:World) (h:Q0l w a n c v) (hn:n<=1000000) (h0:v≠0):
 Calls Tryz.prog 104 #[.slice a n c] w fun e w'=>(∃z:Nat,e=.returned (.int .i64 (z:Int))/\Qhq v z/\z<32*n)/\Below w.heap.size w w':=by
 have hv:val (2^32) (dig (2^32) v)=v:=Q0r (by decide) v
 have hl:=Q22 (B:=2^32) (by decide) v
 have hA1:=h.len
 have hr:=h.rd
 obtain ⟨A,hA⟩:∃A,dig (2^32) v=A:=⟨_,rfl⟩
 rw[hA] at hv hl hA1 hr
 have H:=Xh4 hv hl hr h0
 clear hv hl hr hA h h0
 go_enter Tryz.func104,Tryz.ntmps104
 go_wp2_with fail
 go_loopw [3,4] (fun nv iv wr=>∃i:Nat,nv=.int .i64 (32*(i:Int))/\iv=.int .i64 (i:Int)/\i<=n/\val (2^32) (A.take i)=0/\Below w.heap.size w wr) (fun _ iv _=>n-(intOf iv).toNat)
 case atStart=>exact ⟨0,rfl,rfl,Nat.zero_le _,by simp[val],Below.refl _ _⟩
 case round=>
  obtain ⟨i,rfl,rfl,hi,hz,hb⟩:=hrel
  by_cases hlt:i<n
  ·have hlt':(i:Int)<(n:Int):=by omega
   obtain ⟨x,hx⟩:∃x,A[i]?=some x:=⟨_,List.getElem?_eq_getElem (by omega)⟩
   have hxl:x<4294967296:=(Xo1 H) x (List.mem_of_getElem? hx)
   obtain ⟨g1,o1,hae,hg1,hcx⟩:=((Xo2 H).below hb).at_ hx
   subst hae
   have HH:=Xh3 hz hb hx
   clear hz hb hx
   by_cases hx0:x=0
   ·subst hx0
    go_wp2_with fail
    refine ⟨⟨i+1,by simp only[Value.int.injEq,true_and];omega,by simp,by omega,?_,(Xo1 HH)⟩,by simp only[intOf];omega⟩
    rw[Q13 A i 0 (Xe2 HH),(Xo0 HH),Nat.mul_zero]
   ·have hx0':((x:Int)==0)=false:=by rw[beq_eq_false_iff_ne];omega
    go_wp2_with fail
    go_loopw [3,5] (fun nv xv wq=>∃k q:Nat,nv=.int .i64 (32*(i:Int)+(k:Int))/\xv=.int .u32 (q:Int)/\q≠0/\q<4294967296/\x=2^k*q/\k<32/\wq=wr) (fun _ xv _=>(intOf xv).toNat)
    case atStart=>exact ⟨0,x,by simp,rfl,hx0,hxl,by simp,by decide,rfl⟩
    case round=>
     obtain ⟨k,q,rfl,rfl,hq0,hql,hxq,hk,rfl⟩:=hrel
     have hand:=Qrd q hql
     by_cases hodd:q%2=1
     ·rw[hodd] at hand
      have htz:=Qtq (Xo0 HH) (Xe2 HH) (m:=q / 2) (k:=k) (by rw[hxq];congr 1;omega) hk
      rw[(Xo0 H)] at htz
      have HT:=Lib.hid htz
      clear htz hxq hodd
      go_wp2_with fail
      go_ret
      exact ⟨⟨32*i+k,by simp,HT.out,by omega⟩,(Xo1 HH)⟩
     ·have he:q%2=0:=by omega
      rw[he] at hand
      obtain ⟨p,hp⟩:∃p,q=2*p:=⟨q / 2,by omega⟩
      have hpI:(q:Int) / 2=(p:Int):=by omega
      have hk2:k+1<32:=by
       rcases Nat.lt_or_ge (k+1) 32 with h|h
       ·exact h
       ·exfalso
        obtain rfl:k=31:=by omega
        rw[hp,show (2:Nat)^31=2147483648 from rfl] at hxq
        omega
      have hxp:x=2^(k+1)*p:=by rw[hxq,hp,Nat.pow_succ,Nat.mul_assoc]
      have HX:=Xh2 hxp hp
      clear hxp hxq hodd he hp
      go_wp2_with fail
      refine ⟨⟨k+1,p,?_,rfl,?_,?_,(Xo0 HX),hk2,trivial⟩,?_⟩
      ·simp only[Value.int.injEq,true_and];omega
      ·have:=(Xe1 HX);omega
      ·have:=(Xe1 HX);omega
      ·simp only[intOf];have:=(Xe1 HX);omega
  ·exfalso
   rw[List.take_of_length_le (by omega),(Xo0 H)] at hz
   exact (Xe3 H) hz
theorem Qo0 {x y s:Nat} (hx:x<2^32) (hs:s<32):(x+y*2^32) / 2^s%2^32=x / 2^s+(y*2^(32-s))%2^32:=by
 have hp:(2:Nat)^32=2^s*2^(32-s):=by rw[<-Nat.pow_add];congr 1;omega
 have h1:=Qnq (s:=s) (t:=32-s) (x:=x) (y:=y) (by rw[show s+(32-s)=32 by omega];exact hx)
 rw[show s+(32-s)=32 by omega] at h1
 have e1:(x+y*2^32) / 2^s=x / 2^s+y*2^(32-s):=by
  rw[hp,<-Nat.mul_assoc,Nat.mul_comm y,Nat.mul_assoc,Nat.add_mul_div_left _ _ (Nat.pow_pos (by decide))]
 rw[e1,Nat.add_mod,Nat.mod_eq_of_lt (a:=x / 2^s) (Nat.lt_of_le_of_lt (Nat.div_le_self _ _) hx),Nat.mod_eq_of_lt h1]
theorem Qlf (A:List Nat) (hA:Low (2^32) A) (k s:Nat) (hk:k<=A.length) (hs:s<32):val (2^32) (shr s (32-s) (A.drop k))=val (2^32) A / 2^(32*k+s):=by
 have h1:=Qhp s (32-s) (A.drop k)
 rw[show s+(32-s)=32 by omega] at h1
 rw[h1,Qjo (Nat.pow_pos (by decide)) A hA k hk,Nat.div_div_eq_div_mul,<-Nat.pow_mul,<-Nat.pow_add]
theorem Qlg {A:List Nat} (hA:Low (2^32) A) (k s:Nat) (hs:s<32):Low (2^32) (shr s (32-s) (A.drop k)):=by
 have h:=Qhs (s:=s) (t:=32-s) (l:=A.drop k) (by rw[show s+(32-s)=32 by omega];exact fun x hx=>hA x (List.mem_of_mem_drop hx))
 rwa[show s+(32-s)=32 by omega] at h
theorem Qlh {A:List Nat} (hA:Low (2^32) A) {k s:Nat} (hk:A.length<=k):val (2^32) A / 2^(32*k+s)=0:=by
 apply Nat.div_eq_of_lt
 have h1:=Q2o (B:=2^32) (Nat.pow_pos (by decide)) A hA
 rw[<-Nat.pow_mul] at h1
 exact Nat.lt_of_lt_of_le h1 (Nat.pow_le_pow_right (by decide) (by omega))
theorem Qo1 (x y:Nat) (hx:x<4294967296) (hy:y<4294967296):bits BinOp.or IntKind.u64 (x:Int) ((y*4294967296:Nat):Int)=((x+y*4294967296:Nat):Int):=by
 rw[u64_or_nat _ _ (by omega) (by omega),Nat.or_comm]
 have:=Nat.shiftLeft_add_eq_or_of_lt (a:=y) (i:=32) (b:=x) hx
 rw[Nat.shiftLeft_eq] at this
 rw[show y*4294967296=y*2^32 from rfl,<-this,Nat.add_comm]
theorem Qre {s t:Nat} {l:List Nat} {j x:Nat} (h:l[j]?=some x):(shr s t l).take (j+1)=(shr s t l).take j++[x / 2^s+((l[j+1]?).getD 0*2^t)%2^(s+t)]:=by
 rw[List.take_add_one,Qhr s t l j x h];rfl
theorem Qhz (a:Option Addr) (n c:Nat) (v z:Nat) (w:World) (h:Q0l w a n c v) (hn:n<=1000000) (hz:z<=100000000):
 Calls Tryz.prog 105 #[.slice a n c,.int .i64 (z:Int)] w fun e w'=>∃a' n' c' lb,e=.returned (.tuple #[.slice a' n' c',.bool lb])/\Q0l w' a' n' c' (v / 2^z)/\Below w.heap.size w w':=by
 have hv:val (2^32) (dig (2^32) v)=v:=Q0r (by decide) v
 have hl:=Q22 (B:=2^32) (by decide) v
 have hA1:=h.len
 have hr:=h.rd
 obtain ⟨A,hA⟩:∃A,dig (2^32) v=A:=⟨_,rfl⟩
 rw[hA] at hv hl hA1 hr
 subst hA1
 obtain ⟨k,hk⟩:∃k,z / 32=k:=⟨_,rfl⟩
 obtain ⟨s,hs⟩:∃s,z%32=s:=⟨_,rfl⟩
 have hs32:s<32:=by omega
 have hzz:z=32*k+s:=by omega
 have hkI:(z:Int).tdiv 32=(k:Int):=by rw[Int.tdiv_eq_ediv_of_nonneg (by omega)];omega
 have hsI:(z:Int).tmod 32=(s:Int):=by rw[Int.tmod_eq_emod_of_nonneg (by omega)];omega
 have hkI2:(z:Int) / 32=(k:Int):=by omega
 have hsI2:(z:Int)%32=(s:Int):=by omega
 obtain ⟨i0,hi0,hz0,hz1,hz2⟩:=info_parts Q6h
 have HI:=Xh4 hi0 hz0 hz1 hz2
 have H:=Xh4 hv hl hr hzz
 clear hv hl hr hA h hk hs hzz hi0 hz0 hz1 hz2
 by_cases hkn:A.length<=k
 ·have hkn':(A.length:Int)<=(k:Int):=by omega
  have hd0:=Qlh (s:=s) (Xo1 H) hkn
  rw[(Xo0 H),<-(Xe3 H)] at hd0
  rw[hd0]
  clear hd0
  go_enter Tryz.func105,Tryz.ntmps105
  go_wp2_with fail
  refine ⟨rfl,.tuple #[.slice none 0 0,.bool (decide ((0:Int)<(A.length:Int)))],by simp[results,go_sem],none,0,0,_,rfl,⟨rfl,Nat.le_refl _,Nat.zero_le _,.inl rfl⟩,Below.refl _ _⟩
 ·obtain ⟨m,hm⟩:∃m,A.length=k+m:=⟨A.length-k,by omega⟩
  have hkn':¬((A.length:Int)<=(k:Int)):=by omega
  have hkn2:(k:Int)<(A.length:Int):=by omega
  go_enter Tryz.func105,Tryz.ntmps105
  go_wp2_with fail
  go_loopw [6,7] (fun lv iv wr=>∃(i:Nat) (lb:Bool),lv=.bool lb/\iv=.int .i64 (i:Int)/\i<=k/\w=wr) (fun _ iv _=>k-(intOf iv).toNat)
  case atStart=>exact ⟨0,false,rfl,rfl,Nat.zero_le _,rfl⟩
  case round=>
   obtain ⟨i,lb,rfl,rfl,hi,rfl⟩:=hrel
   by_cases hlt:i<k
   ·have hlt':(i:Int)<(k:Int):=by omega
    obtain ⟨x,hx⟩:∃x,A[i]?=some x:=⟨_,List.getElem?_eq_getElem (by omega)⟩
    obtain ⟨g1,o1,hae,hg1,hcx⟩:=(Xo2 H).at_ hx
    subst hae
    have hil:(i:Int)<(A.length:Int):=by omega
    cases lb
    ·go_wp2_with fail
     exact ⟨⟨i+1,_,rfl,by simp,by omega,trivial⟩,by simp only[intOf];omega⟩
    ·go_wp2_with fail
     exact ⟨⟨i+1,_,rfl,by simp,by omega,trivial⟩,by simp only[intOf];omega⟩
   ·obtain rfl:k=i:=by omega
    have hlt':¬((k:Int)<(k:Int)):=by omega
    obtain ⟨x,hx⟩:∃x,A[k]?=some x:=⟨_,List.getElem?_eq_getElem (by omega)⟩
    obtain ⟨g1,o1,hae,hg1,hcx⟩:=(Xo2 H).at_ hx
    subst hae
    clear hx
    go_upto_region 8 with fail
    go_cut [6] (fun lv wx=>∃lb2 nq,lv=.bool lb2/\w.drewN nq=wx)
    case first=>
     cases lb
     ·go_quiet (fail)
      go_wp2_with fail
      go_meet
      exact ⟨_,nq,rfl,rfl⟩
     ·go_quiet (fail)
      go_wp2_with fail
      go_meet
      exact ⟨_,nq,rfl,rfl⟩
    case rest=>
     obtain ⟨lb2,nq,rfl,rfl⟩:=hcut
     have HB0:=Lib.hid (Q1w (Below.refl w.heap.size w) nq)
     clear hcx hlt hlt' hi
     go_wp2_with fail
     go_loopw [8,9] (fun ov iv wr=>∃(t:Nat) (ao:Option Addr) (co:Nat),ov=.slice ao t co/\iv=.int .i64 ((k:Int)+(t:Int))/\t<=m/\Row wr w.heap.size 152 1 ao t co (((shr s (32-s) (A.drop k)).take t).map (nv .u32))/\Below w.heap.size w wr) (fun _ iv _=>k+m-(intOf iv).toNat)
     case atStart=>exact ⟨0,none,0,rfl,by simp,Nat.zero_le _,Row.nil_ _ _ _ _,HB0.out⟩
     case round=>
      obtain ⟨t,ao,co,rfl,rfl,ht,hrow,hb⟩:=hrel
      by_cases hlt:t<m
      ·have hlt':(t:Int)<(m:Int):=by omega
       obtain ⟨y0,hy0⟩:∃y,A[k+t]?=some y:=⟨_,List.getElem?_eq_getElem (by omega)⟩
       have hxl:y0<4294967296:=(Xo1 H) y0 (List.mem_of_getElem? hy0)
       obtain ⟨g2,o2,hae,hg2,hcx⟩:=((Xo2 H).below hb).at_ hy0
       injection hae with hae;injection hae with e1 e2;subst e1 e2
       have hyl:A[k+t+1]?.getD 0<4294967296:=Qa1 (by decide) (Xo1 H) (k+t+1)
       have hd:∀W:World,W.heap=wr.heap->Calls Tryz.prog 106 #[.slice (some ⟨g1,o1,none⟩) (k+m) c,.int .i64 ((k:Int)+(t:Int)+1)] W fun e w'=>e=.returned (.int .u64 ((A[k+t+1]?.getD 0:Nat):Int))/\∃n,w'=W.drewN n:=fun W hW=>by
        have h1:=Q66 (some ⟨g1,o1,none⟩) (k+m) c A (k+t+1) W (B:=w.heap.size) (by omega) (RdI.keep ((Xo2 H).below hb) (fun p _=>by unfold World.cell?;rw[hW])) (Xo1 H)
        rw[show ((k+t+1:Nat):Int)=(k:Int)+(t:Int)+1 by omega] at h1
        refine h1.mono ?_
        rintro e w' ⟨rfl,rfl⟩
        exact ⟨rfl,0,rfl⟩
       have hsh:=Qre (s:=s) (t:=32-s) (l:=A.drop k) (j:=t) (x:=y0) (by rw[List.getElem?_drop];exact hy0)
       rw[List.getElem?_drop,show k+(t+1)=k+t+1 by omega,show s+(32-s)=32 by omega] at hsh
       generalize A[k+t+1]?.getD 0=y at*
       have hdp:=Qo0 (x:=y0) (y:=y) (s:=s) hxl hs32
       rw[<-hdp] at hsh
       have hor:=Qo1 y0 y hxl hyl
       obtain ⟨q,hq⟩:∃q,y0+y*4294967296=q:=⟨_,rfl⟩
       obtain ⟨yy,hyy⟩:∃yy,y*4294967296=yy:=⟨_,rfl⟩
       have hyyI:(y:Int)*4294967296=(yy:Int):=by omega
       have hyyl:yy<18446744073709551616:=by omega
       have hql:q<18446744073709551616:=by omega
       rw[hyy] at hor
       rw[<-hyy,hq] at hor
       rw[hyy] at hor
       rw[show y0+y*2^32=q from hq] at hsh
       obtain ⟨p,hp⟩:∃p,q / 2^s=p:=⟨_,rfl⟩
       have hpI:(q:Int) / 2^s=(p:Int):=by rw[<-hp];norm_cast
       have hpl:p<18446744073709551616:=by rw[<-hp];exact Nat.lt_of_le_of_lt (Nat.div_le_self _ _) hql
       have hand:=Qny p hpl
       rw[hp] at hsh
       obtain ⟨lo,hlo⟩:∃lo,p%4294967296=lo:=⟨_,rfl⟩
       have hlol:lo<4294967296:=by omega
       rw[hlo] at hand
       rw[show p%2^32=lo from hlo] at hsh
       have hkt:(k:Int)+(t:Int)<(k:Int)+(m:Int):=by omega
       have hba:∀o nq,Below w.heap.size w ((wr.drewN nq).alloc o):=fun o nq=>(Q1w hb nq).alloc hb.size o
       have hbz:∀o nq,w.heap.size<=((wr.drewN nq).alloc o).heap.size:=fun o nq=>(hba o nq).size
       have hrr:∀o nq,Row ((wr.drewN nq).alloc o) w.heap.size 152 1 ao t co (((shr s (32-s) (A.drop k)).take t).map (nv .u32)):=fun o nq=>(hrow.drewN nq).alloc o
       have HH:=Xh4 hsh hrr hba hbz
       clear hsh hrr hba hbz hb hrow hq hyy hp hlo hdp hy0
       go_wp2_with fail
       go_quiet (first|(refine Calls.quiet_of (hd _ ?_);rfl))
       go_wp2_with (at_builtin;refine Q0o rfl (.tmp 66) (.tmp 73) 54 rfl w _ 152 i0 _ 1 4 Tryz.underlying54 (Xo0 HI) (Xo1 HI) (Xo2 HI) (Xe3 HI) rfl (by decide) w.heap.size ((Xo2 HH) _ _) ((Xe3 HH) _ _) ao t co _ rfl ((Xo1 HH) _ _) ⟨(wr.drewN nq).heap.size,0,none⟩ 1 1 [.int .u32 (lo:Int)] rfl rfl (Q2w (wr.drewN nq) #[.int .u32 (lo:Int)] _ _) (Q8l _ _) (t+1) rfl (by omega) (by omega) ?_;intro a3 c3 w3 ho3 hg3 hb3 hat3;have HO:=Xh2 ho3 hb3;clear ho3 hg3 hb3 hat3)
       refine ⟨⟨t+1,a3,c3,rfl,by simp only[Value.int.injEq,true_and];omega,by omega,?_,(Xe1 HO)⟩,by simp only[intOf];omega⟩
       rw[(Xo0 HH),List.map_append];exact (Xo0 HO)
      ·obtain rfl:m=t:=by omega
       have hlt':¬(k:Int)+(m:Int)<(k:Int)+(m:Int):=by omega
       have hsl:(shr s (32-s) (A.drop k)).length=m:=by rw[Qho,List.length_drop];omega
       rw[List.take_of_length_le (by omega)] at hrow
       have hT:=Q4n ao m co _ wr hsl hrow.cap.1 hrow.cap.2 (Row.rdI hrow) (Qlg (Xo1 H) k s hs32)
       rw[Qlf A (Xo1 H) k s (by omega) hs32,(Xo0 H),<-(Xe3 H)] at hT
       have HT:=Xh2 hT hb
       clear hT hb hrow hsl
       go_wp2_with (refine (Xo0 HT).mono ?_;rintro e w1 ⟨n',rfl,hn',hD,rfl⟩;have HD2:=Lib.hid hD;clear hD)
       refine ⟨rfl,.tuple #[.slice ao n' n',.bool lb2],by simp[results,go_sem],ao,n',n',lb2,rfl,HD2.out,(Xe1 HT)⟩
def Q3z:List Nat->List Nat
 |[]=>[]
 |[x]=>[x]
 |x::y::r=>(x+y*4294967296)::Q3z r
theorem Qek:∀l:List Nat,val (2^64) (Q3z l)=val (2^32) l
 |[]=>rfl
 |[x]=>by simp[Q3z,val]
 |x::y::r=>by
  have ih:=Qek r
  simp only[Q3z,val,ih]
  have e:(2:Nat)^64=4294967296*4294967296:=by decide
  rw[e,Nat.mul_add,show (2:Nat)^32=4294967296 from rfl,Nat.mul_assoc]
  omega
theorem Qam:∀l:List Nat,Low (2^32) l->Low (2^64) (Q3z l)
 |[],_=>fun x hx=>by cases hx
 |[x],h=>fun y hy=>by
  rw[Q3z,List.mem_singleton] at hy
  subst hy
  have:y<4294967296:=h y (by simp)
  show y<18446744073709551616
  omega
 |x::y::r,h=>fun z hz=>by
  have h1:x<4294967296:=h x (by simp)
  have h2:y<4294967296:=h y (by simp)
  rcases List.mem_cons.1 hz with rfl|hz
  ·show x+y*4294967296<18446744073709551616
   omega
  ·exact Qam r (fun u hu=>h u (by simp[hu])) z hz
theorem Qcd:∀l:List Nat,Q4v l->Q4v (Q3z l)
 |[],_=>fun x hx=>by cases hx
 |[x],h=>h
 |[x,y],h=>fun z hz=>by
  simp[Q3z] at hz
  have:=h y (by simp)
  omega
 |x::y::u::r,h=>fun z hz=>by
  have h2:Q4v (u::r):=fun a ha=>h a (by rw[List.getLast?_cons_cons,List.getLast?_cons_cons];exact ha)
  have h3:=Qcd (u::r) h2
  refine h3 z ?_
  rw[Q3z] at hz
  cases hp:Q3z (u::r) with
  |nil=>cases r <;> simp[Q3z] at hp
  |cons p q=>rw[hp,List.getLast?_cons_cons] at hz;exact hz
theorem Qo2 (v:Nat):Q3z (dig (2^32) v)=dig (2^64) v:=by
 have h1:=Qhm (B:=2^64) (by decide) (Q3z (dig (2^32) v)) (Qam _ (Q22 (by decide) v)) (Qcd _ (Qjm (by decide) v))
 rw[Qek,Q0r (by decide)] at h1
 exact h1.symm
theorem Qel:∀(l:List Nat) (j x:Nat),l[2*j]?=some x->(Q3z l)[j]?=some (x+(l[2*j+1]?).getD 0*4294967296)
 |[],j,x,h=>by simp at h
 |[y],0,x,h=>by simp at h;simp[Q3z,h]
 |[y],j+1,x,h=>by simp[Nat.mul_add] at h
 |y::z::r,0,x,h=>by simp at h;simp[Q3z,h]
 |y::z::r,j+1,x,h=>by
  rw[Nat.mul_add] at h
  have:=Qel r j x (by simpa using h)
  simpa[Q3z,Nat.mul_add] using this
theorem Qem:∀l:List Nat,(Q3z l).length=(l.length+1) / 2
 |[]=>rfl
 |[x]=>by simp[Q3z]
 |x::y::r=>by
  have:=Qem r
  simp only[Q3z,List.length_cons,this]
  omega
theorem Qli {l:List Nat} {j x:Nat} (h:l[2*j]?=some x):(Q3z l).take (j+1)=(Q3z l).take j++[x+(l[2*j+1]?).getD 0*4294967296]:=by
 rw[List.take_add_one,Qel l j x h];rfl
theorem Qen (a:Option Addr) (n c:Nat) (v:Nat) (w:World) (h:Q0l w a n c v) (hn:n<=1000000):
 Calls Tryz.prog 172 #[.slice a n c] w fun e w'=>∃a' n' c',e=.returned (.slice a' n' c')/\WordsIn w' a' n' c' (dig (2^64) v)/\Below w.heap.size w w':=by
 have hl:=Q22 (B:=2^32) (by decide) v
 have hpd:=Qo2 v
 have hA1:=h.len
 have hr:=h.rd
 obtain ⟨A,hA⟩:∃A,dig (2^32) v=A:=⟨_,rfl⟩
 rw[hA] at hl hA1 hr hpd
 rw[<-hpd]
 subst hA1
 have hPl:=Qem A
 have hlow:=Qam A hl
 obtain ⟨i0,hi0,hz0,hz1,hz2⟩:=info_parts Q4w
 have HI:=Xh4 hi0 hz0 hz1 hz2
 have H:=Xh4 hl hr hPl hlow
 clear hl hr hA h hpd hPl hlow hi0 hz0 hz1 hz2
 go_enter Tryz.func172,Tryz.ntmps172
 go_wp2_with fail
 go_loopw [3,4] (fun ov iv wr=>∃(j:Nat) (ao:Option Addr) (co:Nat),ov=.slice ao j co/\iv=.int .i64 (2*(j:Int))/\2*j<=A.length+1/\Row wr w.heap.size 74 1 ao j co (((Q3z A).take j).map (nv .u64))/\Below w.heap.size w wr) (fun _ iv _=>A.length+2-(intOf iv).toNat)
 case atStart=>exact ⟨0,none,0,rfl,rfl,by omega,Row.nil_ _ _ _ _,Below.refl _ _⟩
 case round=>
  obtain ⟨j,ao,co,rfl,rfl,hj,hrow,hb⟩:=hrel
  by_cases hlt:2*j<A.length
  ·have hlt':2*(j:Int)<(A.length:Int):=by omega
   obtain ⟨x,hx⟩:∃x,A[2*j]?=some x:=⟨_,List.getElem?_eq_getElem hlt⟩
   have hxl:x<4294967296:=(Xo0 H) x (List.mem_of_getElem? hx)
   obtain ⟨g1,o1,hae,hg1,hcx⟩:=((Xo1 H).below hb).at_ hx
   have hnx:=Qli hx
   have hba:∀o,Below w.heap.size w (wr.alloc o):=fun o=>hb.alloc hb.size o
   have hbz:∀o,w.heap.size<=(wr.alloc o).heap.size:=fun o=>(hba o).size
   have hrr:∀o,Row (wr.alloc o) w.heap.size 74 1 ao j co (((Q3z A).take j).map (nv .u64)):=fun o=>hrow.alloc o
   have HB:=Lib.hid hb
   by_cases h2:2*j+1<A.length
   ·have h2':2*(j:Int)+1<(A.length:Int):=by omega
    obtain ⟨y,hy⟩:∃y,A[2*j+1]?=some y:=⟨_,List.getElem?_eq_getElem h2⟩
    have hyl:y<4294967296:=(Xo0 H) y (List.mem_of_getElem? hy)
    obtain ⟨g2,o2,hae2,hg2,hcy⟩:=((Xo1 H).below hb).at_ hy
    subst hae
    injection hae2 with hae2;injection hae2 with e1 e2;subst e1 e2
    rw[hy,Option.getD_some] at hnx
    have hor:=Qo1 x y hxl hyl
    obtain ⟨yy,hyy⟩:∃yy,y*4294967296=yy:=⟨_,rfl⟩
    have hyyI:(y:Int)*4294967296=(yy:Int):=by omega
    have hyyl:yy<18446744073709551616:=by omega
    rw[hyy] at hor hnx
    obtain ⟨q,hq⟩:∃q,x+yy=q:=⟨_,rfl⟩
    rw[hq] at hor hnx
    have hql:q<18446744073709551616:=by omega
    have HH:=Xh4 hnx hrr hba hbz
    clear hnx hrr hba hbz hb hrow hx hy hyy hq
    go_wp2_with (at_builtin;refine Q0o rfl (.tmp 31) (.tmp 33) 23 rfl w _ 74 i0 _ 1 8 Tryz.underlying23 (Xo0 HI) (Xo1 HI) (Xo2 HI) (Xe3 HI) rfl (by decide) w.heap.size ((Xo2 HH) _) ((Xe3 HH) _) ao j co _ rfl ((Xo1 HH) _) ⟨wr.heap.size,0,none⟩ 1 1 [.int .u64 (q:Int)] rfl rfl (Q2w wr #[.int .u64 (q:Int)] _ _) (Q8l _ _) (j+1) rfl (by omega) (by omega) ?_;intro a3 c3 w3 ho3 hg3 hb3 hat3;have HO:=Xh2 ho3 hb3;clear ho3 hg3 hb3 hat3)
    refine ⟨⟨j+1,a3,c3,rfl,by simp only[Value.int.injEq,true_and];omega,by omega,?_,(Xe1 HO)⟩,by simp only[intOf];omega⟩
    rw[(Xo0 HH),List.map_append];exact (Xo0 HO)
   ·have h2':¬2*(j:Int)+1<(A.length:Int):=by omega
    subst hae
    rw[List.getElem?_eq_none (by omega),Option.getD_none,Nat.zero_mul,Nat.add_zero] at hnx
    have HH:=Xh4 hnx hrr hba hbz
    clear hnx hrr hba hbz hb hrow hx
    go_wp2_with (at_builtin;refine Q0o rfl (.tmp 31) (.tmp 33) 23 rfl w _ 74 i0 _ 1 8 Tryz.underlying23 (Xo0 HI) (Xo1 HI) (Xo2 HI) (Xe3 HI) rfl (by decide) w.heap.size ((Xo2 HH) _) ((Xe3 HH) _) ao j co _ rfl ((Xo1 HH) _) ⟨wr.heap.size,0,none⟩ 1 1 [.int .u64 (x:Int)] rfl rfl (Q2w wr #[.int .u64 (x:Int)] _ _) (Q8l _ _) (j+1) rfl (by omega) (by omega) ?_;intro a3 c3 w3 ho3 hg3 hb3 hat3;have HO:=Xh2 ho3 hb3;clear ho3 hg3 hb3 hat3)
    refine ⟨⟨j+1,a3,c3,rfl,by simp only[Value.int.injEq,true_and];omega,by omega,?_,(Xe1 HO)⟩,by simp only[intOf];omega⟩
    rw[(Xo0 HH),List.map_append];exact (Xo0 HO)
  ·have hlt':¬2*(j:Int)<(A.length:Int):=by omega
   have hlen:(Q3z A).length=j:=by rw[(Xo2 H)];omega
   rw[List.take_of_length_le (by omega)] at hrow
   have hW:WordsIn wr ao j co (Q3z A):=⟨hlen,hrow.cap.1,hrow.cap.2,(Xe3 H),Row.rdI hrow⟩
   have HW:=Xh2 hW hb
   clear hW hb hrow hlen
   go_wp2_with fail
   go_ret
   exact ⟨ao,j,co,rfl,(Xo0 HW),(Xe1 HW)⟩
end Go.Proofs.YtdilmfakkppgpaaGreatDoor
namespace Go.Proofs.YtdilmfakkppgpaaGreatDoor
open Go.RowKit
structure Q04 (w:World) (b:Nat) (v0 v1 v2:Value):Prop where
 c0:w.cell? ⟨b,0,none⟩=some v0
 c1:w.cell? ⟨b,1,none⟩=some v1
 c2:w.cell? ⟨b,2,none⟩=some v2
 f0:w.frozen? ⟨b,0,none⟩=false
 f1:w.frozen? ⟨b,1,none⟩=false
 f2:w.frozen? ⟨b,2,none⟩=false
theorem Q04.new (w:World) (v0 v1 v2:Value) (T:TypeId):Q04 (w.alloc (.cells #[v0,v1,v2] T)) w.heap.size v0 v1 v2:=
 ⟨by rw[cell_of_row _ _ _ _ _ _ (heap_alloc_new _ _)];rfl,by rw[cell_of_row _ _ _ _ _ _ (heap_alloc_new _ _)];rfl,by rw[cell_of_row _ _ _ _ _ _ (heap_alloc_new _ _)];rfl,
   frozen_of_row _ _ _ _ _ (heap_alloc_new _ _),frozen_of_row _ _ _ _ _ (heap_alloc_new _ _),frozen_of_row _ _ _ _ _ (heap_alloc_new _ _)⟩
theorem Q0f (w:World) (o:Obj):w.heap.size<(w.alloc o).heap.size:=by rw[World.size_alloc];omega
theorem Q04.step {w w':World} {b B:Nat} {v0 v1 v2:Value} (h:Q04 w b v0 v1 v2) (hb:Below B w w') (hB:b<B):Q04 w' b v0 v1 v2:=
 ⟨(hb.cell (p:=⟨b,0,none⟩) hB).trans h.c0,(hb.cell (p:=⟨b,1,none⟩) hB).trans h.c1,(hb.cell (p:=⟨b,2,none⟩) hB).trans h.c2,(hb.frozen (p:=⟨b,0,none⟩) hB).trans h.f0,(hb.frozen (p:=⟨b,1,none⟩) hB).trans h.f1,(hb.frozen (p:=⟨b,2,none⟩) hB).trans h.f2⟩
theorem Q04.d1 {w:World} {b:Nat} {v0 v1 v2:Value} (h:Q04 w b v0 v1 v2) (u0:Value):(w.setCell ⟨b,0,none⟩ u0).cell? ⟨b,1,none⟩=some v1:=(World.cell?_setCell_other _ _ _ _ (by simp)).trans h.c1
theorem Q04.d2 {w:World} {b:Nat} {v0 v1 v2:Value} (h:Q04 w b v0 v1 v2) (u0 u1:Value):((w.setCell ⟨b,0,none⟩ u0).setCell ⟨b,1,none⟩ u1).cell? ⟨b,2,none⟩=some v2:=(World.cell?_setCell_other _ _ _ _ (by simp)).trans ((World.cell?_setCell_other _ _ _ _ (by simp)).trans h.c2)
theorem Q04.store {w:World} {b:Nat} {v0 v1 v2:Value} (h:Q04 w b v0 v1 v2) (u0 u1 u2:Value):Q04 (((w.setCell ⟨b,0,none⟩ u0).setCell ⟨b,1,none⟩ u1).setCell ⟨b,2,none⟩ u2) b u0 u1 u2:=
 ⟨(World.cell?_setCell_other _ _ _ _ (by simp)).trans ((World.cell?_setCell_other _ _ _ _ (by simp)).trans (World.cell?_setCell_same' _ _ _ (by rw[h.c0];rfl))),(World.cell?_setCell_other _ _ _ _ (by simp)).trans (World.cell?_setCell_same' _ _ _ (by rw[h.d1];rfl)),World.cell?_setCell_same' _ _ _ (by rw[h.d2];rfl),by simp[h.f0],by simp[h.f1],by simp[h.f2]⟩
theorem Q04.below {w w0:World} {b B:Nat} (hb:Below B w0 w) (hB:B<=b) (u0 u1 u2:Value):Below B w0 (((w.setCell ⟨b,0,none⟩ u0).setCell ⟨b,1,none⟩ u1).setCell ⟨b,2,none⟩ u2):=
 ((hb.setCell (p:=⟨b,0,none⟩) hB _).setCell (p:=⟨b,1,none⟩) hB _).setCell (p:=⟨b,2,none⟩) hB _
theorem RdI.store3 {K:IntKind} {w:World} {B b:Nat} {a:Option Addr} {ls:List Nat} {v0 v1 v2:Value} (h:RdI K w B a ls) (hN:Q04 w b v0 v1 v2) (h0:∀x:Nat,v0≠nv K x) (h1:∀x:Nat,v1≠nv K x) (h2:∀x:Nat,v2≠nv K x) (u0 u1 u2:Value):
 RdI K (((w.setCell ⟨b,0,none⟩ u0).setCell ⟨b,1,none⟩ u1).setCell ⟨b,2,none⟩ u2) B a ls:=by
 rcases h with rfl|⟨g,o,rfl,hg,hc⟩
 ·exact .inl rfl
 ·refine .inr ⟨g,o,rfl,hg,fun j x hx=>?_⟩
  have hcx:=hc j x hx
  have key:∀(i:Nat) (v:Value),w.cell? ⟨b,i,none⟩=some v->(∀x:Nat,v≠nv K x)->(⟨g,o+j,none⟩:Addr)≠⟨b,i,none⟩:=fun i v hv hne e=>by
   rw[e,hv] at hcx
   injection hcx with hcx
   exact hne x hcx
  exact (World.cell?_setCell_other _ _ _ _ (key 2 v2 hN.c2 h2).symm).trans ((World.cell?_setCell_other _ _ _ _ (key 1 v1 hN.c1 h1).symm).trans ((World.cell?_setCell_other _ _ _ _ (key 0 v0 hN.c0 h0).symm).trans hcx))
theorem Q14 (w:World) (b:Nat) (u0 u1 u2:Value):w.heap.size<=(((w.setCell ⟨b,0,none⟩ u0).setCell ⟨b,1,none⟩ u1).setCell ⟨b,2,none⟩ u2).heap.size:=(Q04.below (Below.refl b w) (Nat.le_refl b) u0 u1 u2).size
end Go.Proofs.YtdilmfakkppgpaaGreatDoor
namespace Go.Proofs.YtdilmfakkppgpaaGreatDoor
open Go.RowKit WordsM
def Q0h (neg:Bool) (exp:Int) (ls:List Nat):Prop:=
 if ls=[] then neg=false/\exp=0 else (trimL ls).length=ls.length/\ls.length<=64/\ls.headD 0%2=1/\-65536<=exp/\exp<=65536
instance (neg:Bool) (exp:Int) (ls:List Nat):Decidable (Q0h neg exp ls):=by unfold Q0h;infer_instance
theorem Q28 (neg:Bool) (exp:Int) (a:Option Addr) (n c:Nat) (ls:List Nat) (w:World) (h:WordsIn w a n c ls) (he: -9223372036854775808<=exp) (he2:exp<=9223372036854775807) (hn:n<=9223372036854775807):
 Calls Tryz.prog 53 #[.agg #[.bool neg,.int .i64 exp,.slice a n c]] w fun e w'=>e=.returned (.bool (decide (Q0h neg exp ls)))/\Below w.heap.size w w':=by
 have hln:=h.len
 have hB0:∀o,Below w.heap.size w (w.alloc o):=fun o=>(Below.refl _ _).alloc (Nat.le_refl _) _
 by_cases h0:n=0
 ·obtain rfl:ls=[]:=List.length_eq_zero_iff.1 (by omega)
  subst h0
  cases neg
  ·go_enter Tryz.func53,Tryz.ntmps53
   go_wp2_with fail
   go_ret
   refine ⟨?_,hB0 _⟩
   show Ending.returned (.bool _)=_
   congr 2
   by_cases h:exp=0 <;> simp[Q0h,h]
  ·go_enter Tryz.func53,Tryz.ntmps53
   go_wp2_with fail
   go_ret
   refine ⟨?_,hB0 _⟩
   show Ending.returned (.bool _)=_
   congr 2
 ·obtain ⟨x,hx⟩:∃x,ls[0]?=some x:=⟨_,List.getElem?_eq_getElem (by omega)⟩
  have hne:ls≠[]:=fun e=>by rw[e] at hx;simp at hx
  have hxl:x<18446744073709551616:=h.low x (List.mem_of_getElem? hx)
  have hhd:ls.headD 0=x:=by cases ls with
   |nil=>exact absurd rfl hne
   |cons y r=>simpa using hx
  have h0I:((n:Int)==0)=false:=by rw[beq_eq_false_iff_ne];omega
  have hand:bits .and .u64 (x:Int) 1=((x%2:Nat):Int):=by rw[show (1:Int)=((1:Nat):Int) from rfl,u64_and_nat x 1 hxl (by decide),nat_mask1]
  obtain ⟨m,hm⟩:∃m,x%2=m:=⟨_,rfl⟩
  rw[hm] at hand
  have hr:=fun W (hb:Below w.heap.size w W)=>Qeh a n c ls W (h.step hb)
  have hN:Q0h neg exp ls↔((trimL ls).length=n/\n<=64/\m=1/\-65536<=exp/\exp<=65536):=by
   unfold Q0h
   rw[if_neg hne,hhd,hm,hln]
  have hex:decide (Q0h neg exp ls)=(decide ((trimL ls).length=n) && (!decide ((64:Int)<n) && ((m:Int)==1 && (decide (-65536<=exp) && decide (exp<=65536))))):=by
   have e64:((64:Int)<(n:Int))↔¬n<=64:=by omega
   have e1:((m:Int)==1)=decide (m=1):=by by_cases h:m=1 <;> simp[h] <;> omega
   rw[e1,Bool.eq_iff_iff]
   simp only[decide_eq_true_eq,Bool.and_eq_true,Bool.not_eq_true',decide_eq_false_iff_not,e64,Nat.not_le,Nat.not_lt]
   exact hN
  rw[hex]
  obtain ⟨R,hR⟩:∃R,decide ((trimL ls).length=n)=R:=⟨_,rfl⟩
  rw[hR] at hr⊢
  have HR:=Lib.hid hr
  have HH:=Xh2 h hx
  clear hr hR hex hm hhd hne hN
  have h0n:0<n:=by omega
  clear h0
  have hlt:w.heap.size<(w.alloc (.cells #[.bool neg,.int .i64 exp,.slice a n c] 41)).heap.size:=(Array.getElem?_eq_some_iff.1 (heap_alloc_new w _)).1
  have hk1:(w.alloc (.cells #[.bool neg,.int .i64 exp,.slice a n c] 41)).cell? ⟨w.heap.size,1,none⟩=some (.int .i64 exp):=by rw[cell_of_row _ _ _ _ _ _ (heap_alloc_new _ _)];rfl
  have hk2:(w.alloc (.cells #[.bool neg,.int .i64 exp,.slice a n c] 41)).cell? ⟨w.heap.size,2,none⟩=some (.slice a n c):=by rw[cell_of_row _ _ _ _ _ _ (heap_alloc_new _ _)];rfl
  have HK:=Xh3 hlt hk1 hk2
  clear hlt hk1 hk2
  cases R
  ·go_enter Tryz.func53,Tryz.ntmps53
   go_wp2_with (refine (HR.out _ (hB0 _)).mono ?_;rintro e w1 ⟨rfl,hb1⟩;have HB1:=Lib.hid hb1;clear hb1)
   go_ret
   exact ⟨rfl,Below.next0 (hB0 _) HB1.out⟩
  ·obtain ⟨b,o,hae,hbl,hcx⟩:=(Xo0 HH).rd.at_ (Xe1 HH)
   subst hae
   rw[Nat.add_zero] at hcx
   by_cases h64:(64:Int)<(n:Int)
   ·go_enter Tryz.func53,Tryz.ntmps53
    go_wp2_with (refine (HR.out _ (hB0 _)).mono ?_;rintro e w1 ⟨rfl,hb1⟩;have hc1:=(hb1.cell (p:=⟨w.heap.size,1,none⟩) (Xo0 HK)).trans (Xo1 HK);have hc2:=(hb1.cell (p:=⟨w.heap.size,2,none⟩) (Xo0 HK)).trans (Xe2 HK);have HB1:=Lib.hid hb1;clear hb1)
    all_goals
     go_ret
     refine ⟨?_,Below.next0 (hB0 _) HB1.out⟩
     show Ending.returned (.bool _)=Ending.returned (.bool _)
     clear HH HK HR HB1 hc1 hc2 hcx h
     congr 2
    all_goals simp_all
    all_goals omega
   ·go_enter Tryz.func53,Tryz.ntmps53
    go_wp2_with (refine (HR.out _ (hB0 _)).mono ?_;rintro e w1 ⟨rfl,hb1⟩;have hc1:=(hb1.cell (p:=⟨w.heap.size,1,none⟩) (Xo0 HK)).trans (Xo1 HK);have hc2:=(hb1.cell (p:=⟨w.heap.size,2,none⟩) (Xo0 HK)).trans (Xe2 HK);have hcx1:=(Below.next0 (hB0 _) hb1).cell (p:=⟨b,o,none⟩) hbl |>.trans hcx;have HB1:=Lib.hid hb1;clear hb1)
    all_goals
     go_ret
     refine ⟨?_,Below.next0 (hB0 _) HB1.out⟩
     show Ending.returned (.bool _)=Ending.returned (.bool _)
     clear HH HK HR HB1 hc1 hc2 hcx h
     congr 2
    all_goals simp_all
    all_goals omega
end Go.Proofs.YtdilmfakkppgpaaGreatDoor
