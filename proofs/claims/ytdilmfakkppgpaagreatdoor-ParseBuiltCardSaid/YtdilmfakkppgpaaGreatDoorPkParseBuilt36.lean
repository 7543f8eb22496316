/- Part 36 of the proof of LawParseBuilt: RefReck. Condition: as each theorem says; none at the end. -/
import Derived.Test.YtdilmfakkppgpaaGreatDoorPkParseBuilt35
set_option maxRecDepth 100000
set_option maxHeartbeats 16000000
namespace Go.Proofs.YtdilmfakkppgpaaGreatDoor
open Go.RowKit WordsM DecM
def Q8x:Except Int (List Q0a)->Int
 | .error e=>e
 | .ok _=>0
def Q9t (k:Nat) (X:Except Int (List Q0a)) (v:Value) (W:World):Prop:=match X with
 | .error _=>∃a l c,v=.slice a l c
 | .ok P=>∃a l c ms,v=.slice a l c/\Q08 W a l c ms/\ms.map Q01.term=P/\Q0z k ms
theorem Q1j (k:Nat) (X:Except Int (List Q0a)):Q0t (Q9t k X):=fun v w w' h hb=>by
 cases X with
 |error e=>exact h
 |ok P=>
  obtain ⟨a,l,c,ms,h1,h2,h3⟩:=h;exact ⟨a,l,c,ms,h1,h2.step hb,h3⟩
def Qd9 (k:Nat) (X:Except Int (List Q0a)) (v:Value) (W:World):Prop:=∃x,v=.tuple #[x,.int .i64 (Q8x X)]/\Q9t k X x W
theorem Q1z (k:Nat) (X:Except Int (List Q0a)):Q0t (Qd9 k X):=fun _ _ _ ⟨x,h1,h2⟩ hb=>⟨x,h1,Q1j k X _ _ _ h2 hb⟩
theorem Q0u.polyT {w w':World} {k:Nat} {X:Except Int (List Q0a)} {r:Ending} (h:Q0u w k X r w'):∃x,r=.returned (.tuple #[x,.int .i64 (Q8x X)])/\Q9t k X x w'/\Bw w w':=by
 obtain ⟨hb,h⟩:=h;cases X with
 |error e=>obtain ⟨a,l,c,rfl⟩:=h;exact ⟨_,rfl,⟨a,l,c,rfl⟩,hb⟩
 |ok P=>obtain ⟨a,l,c,ms,rfl,h⟩:=h;exact ⟨_,rfl,⟨a,l,c,ms,rfl,h⟩,hb⟩
def Qyg (ms:List Q01) (v:Value) (W:World):Prop:=∃a l c,v=.slice a l c/\Q08 W a l c (ms.map Qcl)
theorem Qj3 (ms:List Q01):Q0t (Qyg ms):=fun _ _ _ ⟨a,l,c,h1,h2⟩ hb=>⟨a,l,c,h1,h2.step hb⟩
def Qvp (k:Nat) (v:Value) (W:World):Prop:=∃g,v=.slice (some ⟨g,0,none⟩) k k/\Q0j W (some ⟨g,0,none⟩) k k (List.replicate k 0)
theorem Qft (k:Nat):Q0t (Qvp k):=fun _ _ _ ⟨g,h1,h2⟩ hb=>⟨g,h1,h2.step hb⟩
def AggM (k:Nat) (m:Q01) (a:OA) (l c:Nat) (v:Value) (W:World):Prop:=∃g,v=.agg #[.bool m.neg,.int .i64 m.exp,.slice a l c,.slice (some ⟨g,0,none⟩) k k]/\WordsIn W a l c m.ws/\Q0j W (some ⟨g,0,none⟩) k k m.es
theorem Ql6 (k:Nat) (m:Q01) (a:OA) (l c:Nat):Q0t (AggM k m a l c):=fun _ _ _ ⟨g,h1,h2,h3⟩ hb=>⟨g,h1,h2.step hb,h3.step hb⟩
def LitM (m:Q01) (v:Value) (W:World):Prop:=∃g,v=.slice (some ⟨g,0,none⟩) 1 1/\Q08 W (some ⟨g,0,none⟩) 1 1 [m]
theorem Ql7 (m:Q01):Q0t (LitM m):=fun _ _ _ ⟨g,h1,h2⟩ hb=>⟨g,h1,h2.step hb⟩
theorem Qyh {i j k l m:Nat} {φ ψ χ ω ξ:Value->World->Prop} (h:Q0t φ) (h':Q0t ψ) (YZ:Q0t χ) (h3:Q0t ω) (h4:Q0t ξ):∀p∈[(i,φ),(j,ψ),(k,χ),(l,ω),(m,ξ)],Q0t p.2:=fun p hp=>by
 rcases UF.1 hp with rfl|hp
 ·exact h
 ·exact Qkr h' YZ h3 h4 p hp
theorem Qz2 {i j k l m n:Nat} {φ ψ χ ω ξ ζ:Value->World->Prop} (h:Q0t φ) (h':Q0t ψ) (YZ:Q0t χ) (h3:Q0t ω) (h4:Q0t ξ) (h5:Q0t ζ):∀p∈[(i,φ),(j,ψ),(k,χ),(l,ω),(m,ξ),(n,ζ)],Q0t p.2:=fun p hp=>by
 rcases UF.1 hp with rfl|hp
 ·exact h
 ·exact Qyh h' YZ h3 h4 h5 p hp
theorem Qz3 {i j k l m n o:Nat} {φ ψ χ ω ξ ζ η:Value->World->Prop} (h:Q0t φ) (h':Q0t ψ) (YZ:Q0t χ) (h3:Q0t ω) (h4:Q0t ξ) (h5:Q0t ζ) (h6:Q0t η):∀p∈[(i,φ),(j,ψ),(k,χ),(l,ω),(m,ξ),(n,ζ),(o,η)],Q0t p.2:=fun p hp=>by
 rcases UF.1 hp with rfl|hp
 ·exact h
 ·exact Qz2 h' YZ h3 h4 h5 h6 p hp
theorem Qoq {a:Operand->Value} {o:Oper} {x:Operand} (ho:o.op=.makeSlice 42 x x) {k:Nat} (hx:a x=.int .i64 (k:Int)) (hk:k<=4) (W:World):(execOp a o).run Tryz.prog W=.ok (.value (.slice (some ⟨W.heap.size,0,none⟩) k k)) (W.alloc (.cells (Array.replicate k (nv .i64 0)) 3)):=by
 have U3:=Xam (P:=Tryz.prog) 42 3 (.int .i64 0) 8 Tryz.underlying42 Q47 rfl .i64 .i64 k (by omega) (by omega);rw[Q1k] at U3;unfold execOp;simp only[ho,hx,Sem.run_bind,U3,Xa7,Xbt]
def Qdj (Xp:Except Int (List Q0a)) (r:List (List Q0a)):Except Int (List (List Q0a)):=match Xp with
 | .error e=>.error e
 | .ok P=>.ok (P::r)
def Qz4 (k:Nat) (st:List (List Q0a)) (Y:Except Int (List (List Q0a))) (s8 s9 s10:Value) (wx:World):Prop:=∃(Xp:Except Int (List Q0a)) (t:Nat),Y=Qdj Xp (st.drop t)/\t<=st.length/\s9=.int .i64 (Q8x Xp)/\(∀e,Xp=.error e->e≠0)/\Q9t k Xp s8 wx/\∃Q:Nat,s10=.int .i64 (Q:Int)/\Q+t=st.length+1
def Qz5 (w:World) (k:Nat) (ops:List OpM) (s6 s7:Value) (wr:World):Prop:=∃(i:Nat) (a:OA) (n c:Nat) (F:List (List Q01)) (st:List (List Q0a)),s6=.slice a n c/\s7=.int .i64 (i:Int)/\i<=ops.length/\Q2t wr a n c F/\F.map (List.map Q01.term)=st.reverse/\(∀ms∈F,Q0z k ms)/\Q4y k ops []=Q4y k (ops.drop i) st/\n<=i/\Bw w wr
theorem Q7p {F:List (List Q01)} {st:List (List Q0a)} (h:F.map (List.map Q01.term)=st.reverse) {j q:Nat} {P:List Q0a} (hj:st[j]?=some P) (hq:q+j+1=F.length):∃ms,F[q]?=some ms/\ms.map Q01.term=P:=by
 have hl:F.length=st.length:=by have:=congrArg List.length h;simpa using this
 have h1:(F.map (List.map Q01.term))[q]?=some P:=by
  rw[h,List.getElem?_reverse (by omega),<-hj]
  congr 1
  omega
 rw[UT] at h1;cases hF:F[q]? with
 |none=>rw[hF] at h1;cases h1
 |some ms=>rw[hF] at h1;injection h1 with h1;exact ⟨ms,rfl,h1⟩
theorem Qv2 {F:List (List Q01)} {st:List (List Q0a)} (h:F.map (List.map Q01.term)=st.reverse) {t q:Nat} (hq:q+t=st.length):(F.take q).map (List.map Q01.term)=(st.drop t).reverse:=by
 rw[List.map_take,h,List.reverse_drop,show st.length-t=q by omega]
theorem Q35 {W:World} {b1 o1 n c:Nat} {F:List (List Q01)} (h:Q2t W (some ⟨b1,o1,none⟩) n c F) {q:Nat} {ms:List Q01} (hq:F[q]?=some ms):b1<W.heap.size/\∃p l d,W.cell? ⟨b1,o1+q,none⟩=some (.slice p l d)/\Q08 W p l d ms:=by
 rcases h.2.2.2 with h0|⟨b,o,e,hb,R1⟩
 ·rw[h0] at hq;simp at hq
 ·injection e with e;injection e with e1 e2;subst e1;subst e2;exact ⟨hb,R1 q ms hq⟩
theorem Qfu (bo no co:Nat) (ops:List OpM) (xs:LV) (k:Nat) (w:World) (X:Except Int (List Q0a)) (hops:Q2g ops xs) (Z2:ops.length=no) (Vl:bo<w.heap.size) (E6:∀j u,xs[j]?=some u->w.cell? ⟨bo,j,none⟩=some u) (D7:no<=1000000) (hg:∀o∈ops,Quu k o) (Z3:1<=k) (Y4:k<=4)
 (hX:Q4y k ops []=(match X with
   | .error e=>.error e
   | .ok P=>.ok [P])) (h99:Q4y k ops []≠.error 99):
 Calls Tryz.prog 76 #[.slice (some ⟨bo,0,none⟩) no co,.int .i64 (k:Int)] w (Q0u w k X):=by
 have H:=Xh6 hops E6 hg hX h99 Vl;clear hops E6 hg hX h99;have U3:=Xam (P:=Tryz.prog) 42 3 (.int .i64 0) 8 Tryz.underlying42 Q47 rfl .i64 .i64 k (by omega) (by omega);rw[Q1k] at U3;have HMK:=Ua U3;clear U3
 go_enter Tryz.func76,Tryz.ntmps76
 go_wp2_with fail
 go_loopw [6,7] (fun s6 s7 wr=>Qz5 w k ops s6 s7 wr) (fun _ iv _=>no-(intOf iv).toNat)
 case atStart=>exact ⟨0,none,0,0,[],[],rfl,rfl,Uu _,⟨rfl,Ug _,by decide,.inl rfl⟩,rfl,(fun ms hm=>by cases hm),rfl,Ug _,Uf _ _⟩
 case round=>
  obtain ⟨i,a,n,c,F,st,rfl,rfl,hi,hF,Z0,y7,I9,hni,Q0⟩:=hrel;rw[Z2] at hi
  by_cases B0:i<no
  ·have hlti:(i:Int)<(no:Int):=(by omega);obtain ⟨o,ho⟩:∃o,ops[i]?=some o:=⟨_,Ub (by omega)⟩;have M9:ops.drop i=o::ops.drop (i+1):=by
    rw[UC (by omega)]
    congr 1
    exact (Um.1 ho).2
   rw[M9,Q4y] at I9;have hgo:=(Xo2 H) o (Ud ho);obtain ⟨kv,nv',tv,y5,U4,J4,QF⟩:=Q2g.get (Xo0 H) ho;have q0:=(Q0.cell (p:=⟨bo,i*3,none⟩) Vl).trans ((Xo1 H) _ _ y5);have q1:=(Q0.cell (p:=⟨bo,i*3+1,none⟩) Vl).trans ((Xo1 H) _ _ U4);have q2:=(Q0.cell (p:=⟨bo,i*3+2,none⟩) Vl).trans ((Xo1 H) _ _ J4);obtain ⟨Y,hY⟩:∃Y,opM k o st=Y:=⟨_,rfl⟩;rw[hY] at I9;have hY99:Y≠.error 99:=fun e=>by
    rw[e] at I9;exact (Xo4 H) I9
   have hln2:st.length=n:=(by have:=congrArg List.length Z0;rw[UQ,List.length_reverse,hF.1] at this;exact this.symm);have hwF:=hF.2.1;have hwF2:=hF.2.2.1;have HR:=Xh7 hF Z0 y7 I9 Q0 hY hY99;have HN:=Ua hln2;clear hF Z0 y7 I9 Q0 hY hY99 y5 U4 J4 M9 ho hln2
   go_upto_block 2 with fail
   go_cut [8,9,10] (fun s8 s9 s10 wx=>Qz4 k st Y s8 s9 s10 wx/\Bw wr wx)
   case first=>
    cases o with
    |num cc=>
     obtain ⟨rfl,rfl,S,rfl,hS,neg,v,e,hf,Y2⟩:=QF;cases cc with
     |none=>
      have Yh:¬Q75 (dy (sgn neg v) e):=by
       rw[<-Q9b]
       by_cases hb:Q69 (dy (sgn neg v) e)=true
       ·rw[Us hb] at Y2;cases Y2
       ·simpa using hb
      have hpf:∀(n':Bool) (e' er:Int) (L:LN),Q0k S n' e' L er->er=2:=fun _ _ _ _ h=>by
       unfold Q0k at h;rw[hf] at h;rcases Q7u h with ⟨h1,_⟩|⟨_,h2,_⟩
       ·exact absurd h1 Yh
       ·exact h2
      have S2:X=.error 2:=by
       have h1:=(Xo3 HR);have h2:Y=.error 2:=(by rw[<-(Xo5 HR),opM]);rw[h2] at h1;have h3:=(Xo3 H);rw[h1] at h3;cases X with
       |error e=>injection h3 with h3;rw[h3]
       |ok P=>cases h3
      have KD:=Q7o ⟨S.toArray⟩ wr (by show S.length<=_;omega);have HPF:=Xh2 S2 hpf;clear hpf Yh hf Y2 S2
      go_wp2_with (go_at_call 123;refine KD.mono ?_;rintro r w4 ⟨n8,e8,a8,l8,c8,L8,er,rfl,JK,KQ,F1⟩;obtain rfl:=(Xe1 HPF) _ _ _ _ JK;have H4:=Xh2 KQ F1;clear JK KQ F1 KD)
      exact ⟨rfl,.tuple #[.slice none 0 0,.int .i64 2],by simp[results,go_sem],Q0u.err (Xo0 HPF) (Qf5 (Below.next0 (Xo4 HR) (Xe1 H4)) _)⟩
     |some d=>
      have hpf:∀(n':Bool) (e' er:Int) (L:LN),Q0k S n' e' L er->er=0/\Q0i n' e' L/\Q28 n' e' L=d:=fun _ _ _ _ h=>by
       unfold Q0k at h;rw[hf] at h
       by_cases hb:Q69 (dy (sgn neg v) e)=true
       ·rw[Us hb] at Y2;injection Y2 with Y2;rcases Q7u h with ⟨_,h2,h3,h4⟩|⟨h1,_⟩
        ·exact ⟨h2,h3,by rw[h4,Y2]⟩
        ·exact absurd ((Q2a _).1 hb) h1
       ·rw[Uq hb] at Y2;cases Y2
      have KD:=Q7o ⟨S.toArray⟩ wr (by show S.length<=_;omega);have HPF:=Ua hpf;clear hpf hf Y2
      go_upto_region 14 with (go_at_call 123;refine KD.mono ?_;rintro r w4 ⟨n8,e8,a8,l8,c8,L8,er,rfl,JK,KQ,F1⟩;obtain ⟨rfl,hin8,hnd8⟩:=HPF.out _ _ _ _ JK;have H4:=Xh4 KQ F1 hin8 hnd8;clear JK KQ F1 KD hin8 hnd8)
      refine Q1p (Φ:=fun U=>Bw w4 U/\Q02 U w4.heap.size (.bool n8) (.int .i64 e8) (.slice a8 l8 c8)/\w4.heap.size<U.heap.size) (P:=fun U=>Code.wp _ _ _ _ U) _ ⟨Ba,Q02.new _ _ _ _ _,Q0r _ _⟩ ?_;intro U hU;obtain ⟨bc,QO⟩:∃bc,w4.heap.size=bc:=⟨_,rfl⟩;have hwU:=(Xo0 H4).step hU.1;have Qq:=Below.next0 (Xo1 H4) hU.1;have Ql:=Q2b (Xo2 H4) (Xo0 H4);rw[QO] at hU;have HC:=Ua (fun W (h:Bw U W)=>And.intro (hU.2.1.step h hU.2.2) (hwU.step h));have HE:=Xh2 (show -9223372036854775808<=e8 by omega) (show e8<=9223372036854775807 by omega);have HU:=Ua Qq;obtain ⟨Xp,D9⟩:∃Xp,Q24 [(d,List.replicate k 0)]=Xp:=⟨_,rfl⟩;have Jg:Y=Qdj Xp (st.drop 0):=(by rw[<-(Xo5 HR),opM,D9];cases Xp <;> rfl);have WF:∀P,Xp=.ok P->Q2z k P:=fun P hP=>Qa4 (fun p hp=>by rw[Uy] at hp;subst hp;exact Q5e k) (D9.trans hP);have Jj:∀e,Xp=.error e->e≠0:=fun e he=>Q4h (D9.trans he);have HO:=Ua (fun W (g:Nat) (h:Q08 W (some ⟨g,0,none⟩) 1 1 [(⟨n8,e8,L8,List.replicate k 0⟩:Q01)])=>show Calls Tryz.prog 48 #[.slice (some ⟨g,0,none⟩) 1 1,.int .i64 (k:Int)] W (Q0u W k Xp) from by
       have h1:=(Qay (some ⟨g,0,none⟩) 1 1 _ k W h (fun m hm=>by rw[Uy] at hm;subst hm;exact ⟨Q5e k,(Xo2 H4)⟩) Z3 Y4 (by decide)).mono fun r w' h=>h;have h2:Q24 (List.map Q01.term [(⟨n8,e8,L8,List.replicate k 0⟩:Q01)])=Xp:=by
        rw[<-D9,<-(Xe3 H4)];rfl
       rw[h2] at h1;exact h1.mono fun r w' h=>h.res Z3 Y4 WF)
      have HY:=Xh2 Jg Jj;clear hU hwU Qq Ql D9 Jg WF Jj q0 q1 q2;rw[QO];clear QO;refine Q0c (E:=Qap) (fun _=>Uf _ _) (by kernel_rfl) (fun W=>Bw U W) (fun _ _ h h'=>Below.next0 h h') (Q3x [.agg #[.bool n8,.int .i64 e8,.slice a8 l8 c8],.int .i64 (k:Int),undef,undef,undef,.int .i64 (k:Int),undef,undef,undef,.int .i64 (Q8x Xp),undef,.int .i64 (Q8x Xp)] (Q1n [(2,Qvp k),(3,AggM k (⟨n8,e8,L8,List.replicate k 0⟩:Q01) a8 l8 c8),(4,LitM (⟨n8,e8,L8,List.replicate k 0⟩:Q01)),(6,Qd9 k Xp),(7,Qd9 k Xp),(8,Q9t k Xp),(10,Q9t k Xp)])) (Q0h (Q0m (Qz3 (Qft _) (Ql6 _ _ _ _ _) (Ql7 _) (Q1z _ _) (Q1z _ _) (Q1j _ _) (Q1j _ _)))) (Q22 (by kernel_rfl)) (by kernel_rfl) (Q05 U) ?_ ?_
      ·skip
       repeat' (first|exact Q98|refine Q97 ?_ ?_)
       all_goals first
        |(refine Q29 rfl fun A W hW F0 hd hd=>?_
          simp[Q82,Region.binds,Q1n] at hd;have e11:=Q0d F0 11 (by kernel_rfl) rfl;have e1:=Q0d F0 1 (by kernel_rfl) rfl;refine Q3n rfl rfl ?_;simp[go_sem,hd,e11,e1,(HC.out W hW).1.c0,(HC.out W hW).1.c1,(HC.out W hW).1.c2]
          done)
        |skip
       ·intro A W hW F0 A0;have e49:=Q0o A0 1 (by decide) rfl rfl rfl;refine Q04 rfl ?_;refine Q10 (Qoq (by rfl) (show A.eval (.tmp 49)=.int .i64 (k:Int) from (Q09 rfl).1 (A0 1 (by decide))) Y4 W) (Ba) ((Q00 rfl).2 ⟨W.heap.size,rfl,Qco k Y4⟩)
       ·intro A W hW F0 A0;have e48:=Q0o A0 0 (by decide) rfl rfl rfl;refine Q04 rfl ?_;obtain ⟨g7,hg7,hz7⟩:=(Q00 rfl).1 (A0 2 (by decide));have ez:=Q1f hg7;refine Q10 (w':=W) (u:=.agg #[.bool n8,.int .i64 e8,.slice a8 l8 c8,.slice (some ⟨g7,0,none⟩) k k]) (by simp[go_sem,e48,ez]) (Uf _ _) ((Q00 rfl).2 ⟨g7,rfl,(HC.out W hW).2,hz7⟩)
       ·intro A W hW F0 A0;refine Q04 rfl ?_;obtain ⟨g7,hg7,hw7,hz7⟩:=(Q00 rfl).1 (A0 3 (by decide));have em:A.eval (.tmp 51)=.agg #[.bool n8,.int .i64 e8,.slice a8 l8 c8,.slice (some ⟨g7,0,none⟩) k k]:=hg7;refine Q10 (Q55 25 1 #[(0,.tmp 51)] (by rfl) (parts':= #[(0,.agg #[.bool n8,.int .i64 e8,.slice a8 l8 c8,.slice (some ⟨g7,0,none⟩) k k])]) (by simp[em]) (Q8t W _ _ _ _)) (Ba) ((Q00 rfl).2 ⟨W.heap.size,rfl,Q9i (m:=⟨n8,e8,L8,List.replicate k 0⟩) hw7 hz7 (Xo0 HE) (Xe1 HE)⟩)
       ·intro A W hW F0 A0;have e53:=Q0o A0 5 (by decide) rfl rfl rfl;refine Q04 rfl ?_;obtain ⟨g6,hv6,KW⟩:=(Q00 rfl).1 (A0 4 (by decide));have ea:=Q1f hv6;have ek:=Q0o A0 5 (by decide) rfl rfl rfl;refine Q0y (f:=48) (args:= #[.slice (some ⟨g6,0,none⟩) 1 1,.int .i64 (k:Int)]) (by simp[go_sem,ea,ek]) ((HO.out W _ KW).mono ?_);rintro e W2 Y0;obtain ⟨x8,rfl,A4,B4⟩:=Y0.polyT;exact ⟨_,rfl,B4,(Q00 rfl).2 ⟨x8,rfl,A4⟩⟩
       ·intro A W hW F0 A0;refine Q04 rfl ?_;obtain ⟨x8,M5,A4⟩:=(Q00 rfl).1 (A0 6 (by decide));have ec:=Q1f M5;refine Q10 (w':=W) (u:=.tuple #[x8,.int .i64 (Q8x Xp)]) (by simp[go_sem,ec]) (Uf _ _) ((Q00 rfl).2 ⟨x8,rfl,A4⟩)
       ·intro A W hW F0 A0;refine Q04 rfl ?_;obtain ⟨x8,M5,A4⟩:=(Q00 rfl).1 (A0 7 (by decide));have ec:=Q1f M5;refine Q10 (w':=W) (u:=x8) (by simp[go_sem,ec]) (Uf _ _) ((Q00 rfl).2 A4)
       ·intro A W hW F0 A0;refine Q04 rfl ?_;obtain ⟨x8,M5,A4⟩:=(Q00 rfl).1 (A0 7 (by decide));have ec:=Q1f M5;refine Q10 (w':=W) (u:=.int .i64 (Q8x Xp)) (by simp[go_sem,ec]) (Uf _ _) ((Q09 rfl).2 rfl)
       ·intro A W hW F0 A0;refine Q04 rfl ?_;have A4:=(Q00 rfl).1 (A0 8 (by decide));refine Q10 (w':=W) (u:=A.eval (.tmp 55)) (by simp[go_sem]) (Uf _ _) ((Q00 rfl).2 A4)
      intro vs W1 S1 C3;have A4:=(Q00 rfl).1 (C3 10 (by decide));have v9:vs 11=.int .i64 (Q8x Xp):=(Q09 rfl).1 (C3 11 (by decide));obtain ⟨x8,M5⟩:∃x,vs 10=x:=⟨_,rfl⟩;rw[M5] at A4;simp only[Q0s,Act.put,Uw,UK,UJ];rw[v9,M5];have HP:=Xh2 S1 A4;clear S1 C3 v9 M5 A4
      go_wp2_with fail
      go_meet;exact ⟨⟨Xp,0,(Xo0 HY),Uu _,rfl,(Xe1 HY),(Xe1 HP),n+1,congrArg (Value.int .i64) (by omega),by have:=HN.out;omega⟩,Below.next0 HU.out (Xo0 HP)⟩
    |var i2=>
     obtain ⟨rfl,rfl,rfl⟩:=QF;have hi2:i2<k:=hgo;have hi2':(i2:Int)<(k:Int):=(by omega);have U3:=HMK.out;have z1:=(UX wr (.cells (Array.replicate k (nv .i64 0)) 3) ⟨bo,i*3+1,none⟩ (US q1)).trans q1;have hzn:=Ul wr (.cells (Array.replicate k (nv .i64 0)) 3);have z2:(wr.alloc (.cells (Array.replicate k (nv .i64 0)) 3)).cell? ⟨wr.heap.size,i2,none⟩=some (.int .i64 0):=by
      rw[Ux _ _ _ _ _ _ hzn];simp[hi2,nv]
     have z3:(wr.alloc (.cells (Array.replicate k (nv .i64 0)) 3)).frozen? ⟨wr.heap.size,i2,none⟩=false:=TC _ _ _ _ _ hzn;have G0:Bw wr (wr.alloc (.cells ((Array.replicate k (nv .i64 0)).setIfInBounds i2 (.int .i64 1)) 3)):=Ba;have he:=Qmg (W:=wr) hi2 Y4;have F1:=G0.alloc G0.size (.cells #[.int .u64 1] 74);have he4:=he.step ((Uf _ _).alloc (Ug _) (.cells #[.int .u64 1] 74));have hw4:=Qms (wr.alloc (.cells ((Array.replicate k (nv .i64 0)).setIfInBounds i2 (.int .i64 1)) 3));have JP:=Q9i (m:=⟨false,0,[1],Q84 k i2⟩) hw4 he4 (by show (-9223372036854775808:Int)<=0;decide) (by show (0:Int)<=9223372036854775807;decide);have M0:=F1.alloc F1.size (.cells #[.bool false,.int .i64 0,.slice (some ⟨(wr.alloc (.cells ((Array.replicate k (nv .i64 0)).setIfInBounds i2 (.int .i64 1)) 3)).heap.size,0,none⟩) 1 1,.slice (some ⟨wr.heap.size,0,none⟩) k k] 44);have Jg:Y=Qdj (.ok [(1,Q84 k i2)]) (st.drop 0):=(by rw[<-(Xo5 HR),opM];rfl);have B2:(wr.alloc (.cells ((Array.replicate k (nv .i64 0)).setIfInBounds i2 (.int .i64 1)) 3)).heap.size=wr.heap.size+1:=Uo _ _;have X6:((wr.alloc (.cells ((Array.replicate k (nv .i64 0)).setIfInBounds i2 (.int .i64 1)) 3)).alloc (.cells #[.int .u64 1] 74)).heap.size=wr.heap.size+1+1:=(by rw[Uo,B2]);rw[X6,B2] at JP;rw[B2] at M0;have HY:=Xh3 Jg JP M0;clear B2 X6;clear Jg JP M0 hw4 he4 F1 he G0 hzn
     go_wp2_with fail
     go_meet;refine ⟨⟨.ok [(1,Q84 k i2)],0,(Xo0 HY),Uu _,rfl,(fun e h=>by cases h),⟨_,_,_,_,rfl,(Xo1 HY),rfl,⟨Z3,Y4,by show 1<=24;decide,fun m hm=>?_,List.pairwise_singleton _ _⟩⟩,n+1,congrArg (Value.int .i64) (by omega),by have:=HN.out;omega⟩,(Xe2 HY)⟩;rw[Uy] at hm;subst hm;exact ⟨⟨Qe5 hi2,Qj0⟩,List.cons_ne_nil _ _⟩
    |nil=>exact QF.elim
    |add=>
     obtain ⟨rfl,rfl,rfl⟩:=QF;rcases st with _|⟨B,_|⟨A,rest⟩⟩
     ·exact absurd (Xo5 HR).symm (Xe6 HR)
     ·exact absurd (Xo5 HR).symm (Xe6 HR)
     have Yf:2<=n:=(by have:=HN.out;simp at this;omega);obtain ⟨n1,Yu⟩:∃n1,n1+1=n:=⟨n-1,by omega⟩;obtain ⟨n2,hn2e⟩:∃n2,n2+2=n:=⟨n-2,by omega⟩;have p6:wrap64 ((n:Int)-1)=(n1:Int):=(by unfold wrap64;omega);have R5:wrap64 ((n:Int)-2)=(n2:Int):=(by unfold wrap64;omega);have Qn:IntKind.i64.wrap ((n:Int)-1)=(n1:Int):=(by rw[Ut];omega);have JY:IntKind.i64.wrap ((n:Int)-2)=(n2:Int):=(by rw[Ut];omega);have JN:(n1:Int)<(n:Int):=(by omega);have G4:(n2:Int)<(n:Int):=(by omega);obtain ⟨mB,z8,Zj⟩:=Q7p (Xo1 HR) (j:=0) (q:=n1) (P:=B) rfl (by rw[(Xo0 HR).1];omega);obtain ⟨mA,Vq,WE⟩:=Q7p (Xo1 HR) (j:=1) (q:=n2) (P:=A) rfl (by rw[(Xo0 HR).1];omega);obtain ⟨b1,o1,rfl⟩:∃b o,a=some ⟨b,o,none⟩:=by
      rcases (Xo0 HR).2.2.2 with h0|⟨b,o,e,_⟩
      ·rw[h0] at z8;simp at z8
      ·exact ⟨b,o,e⟩
     obtain ⟨K8,pB,lB,dB,Xx,f7⟩:=Q35 (Xo0 HR) z8;obtain ⟨_,pA,lA,dA,hcA,Qk⟩:=Q35 (Xo0 HR) Vq;have Ju:=(Xo2 HR) mB (Ud z8);have WG:=(Xo2 HR) mA (Ud Vq);have Yt:=Ua (fun W (h:Bw wr W)=>And.intro ((h.cell (p:=⟨b1,o1+n2,none⟩) K8).trans hcA) (And.intro ((h.cell (p:=⟨b1,o1+n1,none⟩) K8).trans Xx) (And.intro (Qk.step h) (f7.step h))));obtain ⟨Xp,D9⟩:∃Xp,Qfz A B=Xp:=⟨_,rfl⟩;have Jg:Y=Qdj Xp ((B::A::rest).drop 2):=(by rw[<-(Xo5 HR),opM,D9];cases Xp <;> rfl);have WF:∀P,Xp=.ok P->Q2z k P:=fun P hP=>Qh8 (by rw[<-WE];exact WG.plain Qk) (by rw[<-Zj];exact Ju.plain f7) (D9.trans hP);have Jj:∀e,Xp=.error e->e≠0:=fun e he=>Q4h (D9.trans he);have HO:=Ua (fun W (h:Q08 W pA lA dA mA) (h':Q08 W pB lB dB mB)=>show Calls Tryz.prog 124 #[.slice pA lA dA,.slice pB lB dB,.int .i64 (k:Int)] W (Q0u W k Xp) from by
      have h1:=Qd4 pA lA dA mA pB lB dB mB k W h h' WG Ju;rw[WE,Zj,D9] at h1;exact h1.mono fun r w' h=>h.res Z3 Y4 WF)
     have HY:=Xh2 Jg Jj;clear D9 Jg WF Jj Qk f7 WG Ju WE Zj hcA Xx Vq z8 K8
     go_upto_region 22 with fail
     refine Q1p (Φ:=fun U=>Bw wr U) (P:=fun U=>Code.wp _ _ _ _ U) _ (Uf _ _) ?_;intro U hU;have HC:=Ua (fun W (h:Bw U W)=>Yt.out W (Below.next0 hU h));have HU:=Ua hU;clear hU q0 q1 q2;refine Q0c (E:=Qap) (fun _=>Uf _ _) (by kernel_rfl) (fun W=>Bw U W) (fun _ _ h h'=>Below.next0 h h') (Q3x [.slice (some ⟨b1,o1,none⟩) n c,.int .i64 (n:Int),.int .i64 (n2:Int),.pointer (some ⟨b1,o1+n2,none⟩),.slice pA lA dA,.slice (some ⟨b1,o1,none⟩) n c,.int .i64 (n:Int),.int .i64 (n1:Int),.pointer (some ⟨b1,o1+n1,none⟩),.slice pB lB dB,.int .i64 (k:Int),undef,undef,undef,.int .i64 (Q8x Xp),undef,.int .i64 (Q8x Xp)] (Q1n [(11,Qd9 k Xp),(12,Qd9 k Xp),(13,Q9t k Xp),(15,Q9t k Xp)])) (Q0h (Q0m (Qkr (Q1z _ _) (Q1z _ _) (Q1j _ _) (Q1j _ _)))) (Q22 (by kernel_rfl)) (by kernel_rfl) (Q05 U) ?_ ?_
     ·skip
      repeat' (first|exact Q98|refine Q97 ?_ ?_)
      all_goals first
       |(refine Q29 rfl fun A W hW F0 hd hd=>?_
         simp[Q82,Region.binds,Q1n] at hd;have e6:=Q0d F0 6 (by kernel_rfl) rfl;have e10:=Q0d F0 10 (by kernel_rfl) rfl;have e1:=Q0d F0 1 (by kernel_rfl) rfl;refine Q3n rfl rfl ?_;simp[go_sem,hd,e6,e10,e1,p6,R5,Qn,JY,G4,(HC.out W hW).1,JN,(HC.out W hW).2.1]
         done)
       |skip
      ·intro A W hW F0 A0;have e84:=Q0o A0 4 (by decide) rfl rfl rfl;have e89:=Q0o A0 9 (by decide) rfl rfl rfl;have e90:=Q0o A0 10 (by decide) rfl rfl rfl;refine Q04 rfl ?_;have ea:=Q0o A0 4 (by decide) rfl rfl rfl;have eb:=Q0o A0 9 (by decide) rfl rfl rfl;have ek:=Q0o A0 10 (by decide) rfl rfl rfl;refine Q0y (f:=124) (args:= #[.slice pA lA dA,.slice pB lB dB,.int .i64 (k:Int)]) (by simp[go_sem,ea,eb,ek]) ((HO.out W (HC.out W hW).2.2.1 (HC.out W hW).2.2.2).mono ?_);rintro e W2 Y0;obtain ⟨x8,rfl,A4,B4⟩:=Y0.polyT;exact ⟨_,rfl,B4,(Q00 rfl).2 ⟨x8,rfl,A4⟩⟩
      ·intro A W hW F0 A0;refine Q04 rfl ?_;obtain ⟨x8,M5,A4⟩:=(Q00 rfl).1 (A0 11 (by decide));have ec:=Q1f M5;refine Q10 (w':=W) (u:=.tuple #[x8,.int .i64 (Q8x Xp)]) (by simp[go_sem,ec]) (Uf _ _) ((Q00 rfl).2 ⟨x8,rfl,A4⟩)
      ·intro A W hW F0 A0;refine Q04 rfl ?_;obtain ⟨x8,M5,A4⟩:=(Q00 rfl).1 (A0 12 (by decide));have ec:=Q1f M5;refine Q10 (w':=W) (u:=x8) (by simp[go_sem,ec]) (Uf _ _) ((Q00 rfl).2 A4)
      ·intro A W hW F0 A0;refine Q04 rfl ?_;obtain ⟨x8,M5,A4⟩:=(Q00 rfl).1 (A0 12 (by decide));have ec:=Q1f M5;refine Q10 (w':=W) (u:=.int .i64 (Q8x Xp)) (by simp[go_sem,ec]) (Uf _ _) ((Q09 rfl).2 rfl)
      ·intro A W hW F0 A0;refine Q04 rfl ?_;have A4:=(Q00 rfl).1 (A0 13 (by decide));refine Q10 (w':=W) (u:=A.eval (.tmp 92)) (by simp[go_sem]) (Uf _ _) ((Q00 rfl).2 A4)
     intro vs W1 S1 C3;have A4:=(Q00 rfl).1 (C3 15 (by decide));have v9:vs 16=.int .i64 (Q8x Xp):=(Q09 rfl).1 (C3 16 (by decide));obtain ⟨x8,M5⟩:∃x,vs 15=x:=⟨_,rfl⟩;rw[M5] at A4;simp only[Q0s,Act.put,Uw,UK,UJ];rw[v9,M5];have HP:=Xh2 S1 A4;clear S1 C3 v9 M5 A4
     go_wp2_with fail
     go_meet;exact ⟨⟨Xp,2,(Xo0 HY),by simp,rfl,(Xe1 HY),(Xe1 HP),n1,congrArg (Value.int .i64) (by omega),by have:=HN.out;omega⟩,Below.next0 HU.out (Xo0 HP)⟩
    |sub=>
     obtain ⟨rfl,rfl,rfl⟩:=QF;rcases st with _|⟨B,_|⟨A,rest⟩⟩
     ·exact absurd (Xo5 HR).symm (Xe6 HR)
     ·exact absurd (Xo5 HR).symm (Xe6 HR)
     have Yf:2<=n:=(by have:=HN.out;simp at this;omega);obtain ⟨n1,Yu⟩:∃n1,n1+1=n:=⟨n-1,by omega⟩;obtain ⟨n2,hn2e⟩:∃n2,n2+2=n:=⟨n-2,by omega⟩;have p6:wrap64 ((n:Int)-1)=(n1:Int):=(by unfold wrap64;omega);have R5:wrap64 ((n:Int)-2)=(n2:Int):=(by unfold wrap64;omega);have Qn:IntKind.i64.wrap ((n:Int)-1)=(n1:Int):=(by rw[Ut];omega);have JY:IntKind.i64.wrap ((n:Int)-2)=(n2:Int):=(by rw[Ut];omega);have JN:(n1:Int)<(n:Int):=(by omega);have G4:(n2:Int)<(n:Int):=(by omega);obtain ⟨mB,z8,Zj⟩:=Q7p (Xo1 HR) (j:=0) (q:=n1) (P:=B) rfl (by rw[(Xo0 HR).1];omega);obtain ⟨mA,Vq,WE⟩:=Q7p (Xo1 HR) (j:=1) (q:=n2) (P:=A) rfl (by rw[(Xo0 HR).1];omega);obtain ⟨b1,o1,rfl⟩:∃b o,a=some ⟨b,o,none⟩:=by
      rcases (Xo0 HR).2.2.2 with h0|⟨b,o,e,_⟩
      ·rw[h0] at z8;simp at z8
      ·exact ⟨b,o,e⟩
     obtain ⟨K8,pB,lB,dB,Xx,f7⟩:=Q35 (Xo0 HR) z8;obtain ⟨_,pA,lA,dA,hcA,Qk⟩:=Q35 (Xo0 HR) Vq;have Ju:=(Xo2 HR) mB (Ud z8);have WG:=(Xo2 HR) mA (Ud Vq);have Yt:=Ua (fun W (h:Bw wr W)=>And.intro ((h.cell (p:=⟨b1,o1+n2,none⟩) K8).trans hcA) (And.intro ((h.cell (p:=⟨b1,o1+n1,none⟩) K8).trans Xx) (And.intro (Qk.step h) (f7.step h))));obtain ⟨Xp,D9⟩:∃Xp,Qfz A (Q5l B)=Xp:=⟨_,rfl⟩;have Jg:Y=Qdj Xp ((B::A::rest).drop 2):=(by rw[<-(Xo5 HR),opM,D9];cases Xp <;> rfl);have WF:∀P,Xp=.ok P->Q2z k P:=fun P hP=>Qh8 (by rw[<-WE];exact WG.plain Qk) (by rw[<-Zj];exact Qnh (Ju.plain f7)) (D9.trans hP);have Jj:∀e,Xp=.error e->e≠0:=fun e he=>Q4h (D9.trans he);have HO:=Ua (fun W (a7:OA) (l7 c7:Nat) (h:Q08 W pA lA dA mA) (h':Q08 W a7 l7 c7 (mB.map Qcl))=>show Calls Tryz.prog 124 #[.slice pA lA dA,.slice a7 l7 c7,.int .i64 (k:Int)] W (Q0u W k Xp) from by
      have h1:=Qd4 pA lA dA mA a7 l7 c7 (mB.map Qcl) k W h h' WG (Q7z Ju);rw[Qad,WE,Zj,D9] at h1;exact h1.mono fun r w' h=>h.res Z3 Y4 WF)
     have HY:=Xh2 Jg Jj;have HR:=Xh2 HR.out Ju;clear D9 Jg WF Jj Qk f7 WG Ju WE Zj hcA Xx Vq z8 K8
     go_upto_region 25 with fail
     refine Q1p (Φ:=fun U=>Bw wr U) (P:=fun U=>Code.wp _ _ _ _ U) _ (Uf _ _) ?_;intro U hU;have HC:=Ua (fun W (h:Bw U W)=>Yt.out W (Below.next0 hU h));have HU:=Ua hU;clear hU q0 q1 q2;refine Q0c (E:=Qap) (fun _=>Uf _ _) (by kernel_rfl) (fun W=>Bw U W) (fun _ _ h h'=>Below.next0 h h') (Q3x [.slice (some ⟨b1,o1,none⟩) n c,.int .i64 (n:Int),.int .i64 (n2:Int),.pointer (some ⟨b1,o1+n2,none⟩),.slice pA lA dA,.slice (some ⟨b1,o1,none⟩) n c,.int .i64 (n:Int),.int .i64 (n1:Int),.pointer (some ⟨b1,o1+n1,none⟩),.slice pB lB dB,undef,.int .i64 (k:Int),undef,undef,undef,.int .i64 (Q8x Xp),undef,.int .i64 (Q8x Xp)] (Q1n [(10,Qyg mB),(12,Qd9 k Xp),(13,Qd9 k Xp),(14,Q9t k Xp),(16,Q9t k Xp)])) (Q0h (Q0m (Qyh (Qj3 _) (Q1z _ _) (Q1z _ _) (Q1j _ _) (Q1j _ _)))) (Q22 (by kernel_rfl)) (by kernel_rfl) (Q05 U) ?_ ?_
     ·skip
      repeat' (first|exact Q98|refine Q97 ?_ ?_)
      all_goals first
       |(refine Q29 rfl fun A W hW F0 hd hd=>?_
         simp[Q82,Region.binds,Q1n] at hd;have e6:=Q0d F0 6 (by kernel_rfl) rfl;have e10:=Q0d F0 10 (by kernel_rfl) rfl;have e1:=Q0d F0 1 (by kernel_rfl) rfl;refine Q3n rfl rfl ?_;simp[go_sem,hd,e6,e10,e1,p6,R5,Qn,JY,G4,(HC.out W hW).1,JN,(HC.out W hW).2.1]
         done)
       |skip
      ·intro A W hW F0 A0;have e108:=Q0o A0 9 (by decide) rfl rfl rfl;refine Q04 rfl ?_;refine Q0y (f:=125) (args:= #[.slice pB lB dB]) (by simp[go_sem,e108]) ((Qb0 pB lB dB mB k W (HC.out W hW).2.2.2 (Xe1 HR)).mono ?_);rintro e W2 ⟨a',c',rfl,K7,J5⟩;exact ⟨_,rfl,J5,(Q00 rfl).2 ⟨a',_,c',rfl,K7⟩⟩
      ·intro A W hW F0 A0;have e103:=Q0o A0 4 (by decide) rfl rfl rfl;have e110:=Q0o A0 11 (by decide) rfl rfl rfl;refine Q04 rfl ?_;have ea:=Q0o A0 4 (by decide) rfl rfl rfl;obtain ⟨a7,l7,c7,hv7,hm7⟩:=(Q00 rfl).1 (A0 10 (by decide));have eb:=Q1f hv7;have ek:=Q0o A0 11 (by decide) rfl rfl rfl;refine Q0y (f:=124) (args:= #[.slice pA lA dA,.slice a7 l7 c7,.int .i64 (k:Int)]) (by simp[go_sem,ea,eb,ek]) ((HO.out W a7 l7 c7 (HC.out W hW).2.2.1 hm7).mono ?_);rintro e W2 Y0;obtain ⟨x8,rfl,A4,B4⟩:=Y0.polyT;exact ⟨_,rfl,B4,(Q00 rfl).2 ⟨x8,rfl,A4⟩⟩
      ·intro A W hW F0 A0;refine Q04 rfl ?_;obtain ⟨x8,M5,A4⟩:=(Q00 rfl).1 (A0 12 (by decide));have ec:=Q1f M5;refine Q10 (w':=W) (u:=.tuple #[x8,.int .i64 (Q8x Xp)]) (by simp[go_sem,ec]) (Uf _ _) ((Q00 rfl).2 ⟨x8,rfl,A4⟩)
      ·intro A W hW F0 A0;refine Q04 rfl ?_;obtain ⟨x8,M5,A4⟩:=(Q00 rfl).1 (A0 13 (by decide));have ec:=Q1f M5;refine Q10 (w':=W) (u:=x8) (by simp[go_sem,ec]) (Uf _ _) ((Q00 rfl).2 A4)
      ·intro A W hW F0 A0;refine Q04 rfl ?_;obtain ⟨x8,M5,A4⟩:=(Q00 rfl).1 (A0 13 (by decide));have ec:=Q1f M5;refine Q10 (w':=W) (u:=.int .i64 (Q8x Xp)) (by simp[go_sem,ec]) (Uf _ _) ((Q09 rfl).2 rfl)
      ·intro A W hW F0 A0;refine Q04 rfl ?_;have A4:=(Q00 rfl).1 (A0 14 (by decide));refine Q10 (w':=W) (u:=A.eval (.tmp 112)) (by simp[go_sem]) (Uf _ _) ((Q00 rfl).2 A4)
     intro vs W1 S1 C3;have A4:=(Q00 rfl).1 (C3 16 (by decide));have v9:vs 17=.int .i64 (Q8x Xp):=(Q09 rfl).1 (C3 17 (by decide));obtain ⟨x8,M5⟩:∃x,vs 16=x:=⟨_,rfl⟩;rw[M5] at A4;simp only[Q0s,Act.put,Uw,UK,UJ];rw[v9,M5];have HP:=Xh2 S1 A4;clear S1 C3 v9 M5 A4
     go_wp2_with fail
     go_meet;exact ⟨⟨Xp,2,(Xo0 HY),by simp,rfl,(Xe1 HY),(Xe1 HP),n1,congrArg (Value.int .i64) (by omega),by have:=HN.out;omega⟩,Below.next0 HU.out (Xo0 HP)⟩
    |mul=>
     obtain ⟨rfl,rfl,rfl⟩:=QF;rcases st with _|⟨B,_|⟨A,rest⟩⟩
     ·exact absurd (Xo5 HR).symm (Xe6 HR)
     ·exact absurd (Xo5 HR).symm (Xe6 HR)
     have Yf:2<=n:=(by have:=HN.out;simp at this;omega);obtain ⟨n1,Yu⟩:∃n1,n1+1=n:=⟨n-1,by omega⟩;obtain ⟨n2,hn2e⟩:∃n2,n2+2=n:=⟨n-2,by omega⟩;have p6:wrap64 ((n:Int)-1)=(n1:Int):=(by unfold wrap64;omega);have R5:wrap64 ((n:Int)-2)=(n2:Int):=(by unfold wrap64;omega);have Qn:IntKind.i64.wrap ((n:Int)-1)=(n1:Int):=(by rw[Ut];omega);have JY:IntKind.i64.wrap ((n:Int)-2)=(n2:Int):=(by rw[Ut];omega);have JN:(n1:Int)<(n:Int):=(by omega);have G4:(n2:Int)<(n:Int):=(by omega);obtain ⟨mB,z8,Zj⟩:=Q7p (Xo1 HR) (j:=0) (q:=n1) (P:=B) rfl (by rw[(Xo0 HR).1];omega);obtain ⟨mA,Vq,WE⟩:=Q7p (Xo1 HR) (j:=1) (q:=n2) (P:=A) rfl (by rw[(Xo0 HR).1];omega);obtain ⟨b1,o1,rfl⟩:∃b o,a=some ⟨b,o,none⟩:=by
      rcases (Xo0 HR).2.2.2 with h0|⟨b,o,e,_⟩
      ·rw[h0] at z8;simp at z8
      ·exact ⟨b,o,e⟩
     obtain ⟨K8,pB,lB,dB,Xx,f7⟩:=Q35 (Xo0 HR) z8;obtain ⟨_,pA,lA,dA,hcA,Qk⟩:=Q35 (Xo0 HR) Vq;have Ju:=(Xo2 HR) mB (Ud z8);have WG:=(Xo2 HR) mA (Ud Vq);have Yt:=Ua (fun W (h:Bw wr W)=>And.intro ((h.cell (p:=⟨b1,o1+n2,none⟩) K8).trans hcA) (And.intro ((h.cell (p:=⟨b1,o1+n1,none⟩) K8).trans Xx) (And.intro (Qk.step h) (f7.step h))));obtain ⟨Xp,D9⟩:∃Xp,Q8d A B=Xp:=⟨_,rfl⟩;have Jg:Y=Qdj Xp ((B::A::rest).drop 2):=(by rw[<-(Xo5 HR),opM,D9];cases Xp <;> rfl);have WF:∀P,Xp=.ok P->Q2z k P:=fun P hP=>Qh9 (by rw[<-WE];exact WG.plain Qk) (by rw[<-Zj];exact Ju.plain f7) (D9.trans hP);have Jj:∀e,Xp=.error e->e≠0:=fun e he=>Q80 (D9.trans he);have HO:=Ua (fun W (h:Q08 W pA lA dA mA) (h':Q08 W pB lB dB mB)=>show Calls Tryz.prog 126 #[.slice pA lA dA,.slice pB lB dB,.int .i64 (k:Int)] W (Q0u W k Xp) from by
      have h1:=Qd6 pA lA dA mA pB lB dB mB k W h h' WG Ju;rw[WE,Zj,D9] at h1;exact h1.mono fun r w' h=>h.res Z3 Y4 WF)
     have HY:=Xh2 Jg Jj;clear D9 Jg WF Jj Qk f7 WG Ju WE Zj hcA Xx Vq z8 K8
     go_upto_region 28 with fail
     refine Q1p (Φ:=fun U=>Bw wr U) (P:=fun U=>Code.wp _ _ _ _ U) _ (Uf _ _) ?_;intro U hU;have HC:=Ua (fun W (h:Bw U W)=>Yt.out W (Below.next0 hU h));have HU:=Ua hU;clear hU q0 q1 q2;refine Q0c (E:=Qap) (fun _=>Uf _ _) (by kernel_rfl) (fun W=>Bw U W) (fun _ _ h h'=>Below.next0 h h') (Q3x [.slice (some ⟨b1,o1,none⟩) n c,.int .i64 (n:Int),.int .i64 (n2:Int),.pointer (some ⟨b1,o1+n2,none⟩),.slice pA lA dA,.slice (some ⟨b1,o1,none⟩) n c,.int .i64 (n:Int),.int .i64 (n1:Int),.pointer (some ⟨b1,o1+n1,none⟩),.slice pB lB dB,.int .i64 (k:Int),undef,undef,undef,.int .i64 (Q8x Xp),undef,.int .i64 (Q8x Xp)] (Q1n [(11,Qd9 k Xp),(12,Qd9 k Xp),(13,Q9t k Xp),(15,Q9t k Xp)])) (Q0h (Q0m (Qkr (Q1z _ _) (Q1z _ _) (Q1j _ _) (Q1j _ _)))) (Q22 (by kernel_rfl)) (by kernel_rfl) (Q05 U) ?_ ?_
     ·skip
      repeat' (first|exact Q98|refine Q97 ?_ ?_)
      all_goals first
       |(refine Q29 rfl fun A W hW F0 hd hd=>?_
         simp[Q82,Region.binds,Q1n] at hd;have e6:=Q0d F0 6 (by kernel_rfl) rfl;have e10:=Q0d F0 10 (by kernel_rfl) rfl;have e1:=Q0d F0 1 (by kernel_rfl) rfl;refine Q3n rfl rfl ?_;simp[go_sem,hd,e6,e10,e1,p6,R5,Qn,JY,G4,(HC.out W hW).1,JN,(HC.out W hW).2.1]
         done)
       |skip
      ·intro A W hW F0 A0;have e123:=Q0o A0 4 (by decide) rfl rfl rfl;have e128:=Q0o A0 9 (by decide) rfl rfl rfl;have e129:=Q0o A0 10 (by decide) rfl rfl rfl;refine Q04 rfl ?_;have ea:=Q0o A0 4 (by decide) rfl rfl rfl;have eb:=Q0o A0 9 (by decide) rfl rfl rfl;have ek:=Q0o A0 10 (by decide) rfl rfl rfl;refine Q0y (f:=126) (args:= #[.slice pA lA dA,.slice pB lB dB,.int .i64 (k:Int)]) (by simp[go_sem,ea,eb,ek]) ((HO.out W (HC.out W hW).2.2.1 (HC.out W hW).2.2.2).mono ?_);rintro e W2 Y0;obtain ⟨x8,rfl,A4,B4⟩:=Y0.polyT;exact ⟨_,rfl,B4,(Q00 rfl).2 ⟨x8,rfl,A4⟩⟩
      ·intro A W hW F0 A0;refine Q04 rfl ?_;obtain ⟨x8,M5,A4⟩:=(Q00 rfl).1 (A0 11 (by decide));have ec:=Q1f M5;refine Q10 (w':=W) (u:=.tuple #[x8,.int .i64 (Q8x Xp)]) (by simp[go_sem,ec]) (Uf _ _) ((Q00 rfl).2 ⟨x8,rfl,A4⟩)
      ·intro A W hW F0 A0;refine Q04 rfl ?_;obtain ⟨x8,M5,A4⟩:=(Q00 rfl).1 (A0 12 (by decide));have ec:=Q1f M5;refine Q10 (w':=W) (u:=x8) (by simp[go_sem,ec]) (Uf _ _) ((Q00 rfl).2 A4)
      ·intro A W hW F0 A0;refine Q04 rfl ?_;obtain ⟨x8,M5,A4⟩:=(Q00 rfl).1 (A0 12 (by decide));have ec:=Q1f M5;refine Q10 (w':=W) (u:=.int .i64 (Q8x Xp)) (by simp[go_sem,ec]) (Uf _ _) ((Q09 rfl).2 rfl)
      ·intro A W hW F0 A0;refine Q04 rfl ?_;have A4:=(Q00 rfl).1 (A0 13 (by decide));refine Q10 (w':=W) (u:=A.eval (.tmp 131)) (by simp[go_sem]) (Uf _ _) ((Q00 rfl).2 A4)
     intro vs W1 S1 C3;have A4:=(Q00 rfl).1 (C3 15 (by decide));have v9:vs 16=.int .i64 (Q8x Xp):=(Q09 rfl).1 (C3 16 (by decide));obtain ⟨x8,M5⟩:∃x,vs 15=x:=⟨_,rfl⟩;rw[M5] at A4;simp only[Q0s,Act.put,Uw,UK,UJ];rw[v9,M5];have HP:=Xh2 S1 A4;clear S1 C3 v9 M5 A4
     go_wp2_with fail
     go_meet;exact ⟨⟨Xp,2,(Xo0 HY),by simp,rfl,(Xe1 HY),(Xe1 HP),n1,congrArg (Value.int .i64) (by omega),by have:=HN.out;omega⟩,Below.next0 HU.out (Xo0 HP)⟩
    |neg=>
     obtain ⟨rfl,rfl,rfl⟩:=QF;rcases st with _|⟨B,rest⟩
     ·exact absurd (Xo5 HR).symm (Xe6 HR)
     have Yf:1<=n:=(by have:=HN.out;simp at this;omega);obtain ⟨n1,Yu⟩:∃n1,n1+1=n:=⟨n-1,by omega⟩;have p6:wrap64 ((n:Int)-1)=(n1:Int):=(by unfold wrap64;omega);have Qn:IntKind.i64.wrap ((n:Int)-1)=(n1:Int):=(by rw[Ut];omega);have R5:=p6;have JY:=Qn;have JN:(n1:Int)<(n:Int):=(by omega);obtain ⟨mB,z8,Zj⟩:=Q7p (Xo1 HR) (j:=0) (q:=n1) (P:=B) rfl (by rw[(Xo0 HR).1];omega);obtain ⟨b1,o1,rfl⟩:∃b o,a=some ⟨b,o,none⟩:=by
      rcases (Xo0 HR).2.2.2 with h0|⟨b,o,e,_⟩
      ·rw[h0] at z8;simp at z8
      ·exact ⟨b,o,e⟩
     obtain ⟨K8,pB,lB,dB,Xx,f7⟩:=Q35 (Xo0 HR) z8;have Ju:=(Xo2 HR) mB (Ud z8);have Jg:Y=Qdj (.ok (Q5l B)) ((B::rest).drop 1):=(by rw[<-(Xo5 HR),opM];rfl);have htu:=Qb0 pB lB dB mB k wr f7 Ju;have HY:=Xh3 Jg (Q7z Ju) (by rw[Qad,Zj]:(mB.map Qcl).map Q01.term=Q5l B);have c1:=Xx;clear Jg f7 Ju Zj Xx z8
     go_wp2_with (go_at_call 125;refine htu.mono ?_;rintro r w4 ⟨a4,c4,rfl,YV,F1⟩;have H4:=Xh2 YV F1;clear YV F1 htu)
     go_meet;exact ⟨⟨.ok (Q5l B),1,(Xo0 HY),by simp,rfl,(fun e h=>by cases h),⟨_,_,_,_,rfl,(Xo0 H4),(Xe2 HY),(Xo1 HY)⟩,n,rfl,by have:=HN.out;omega⟩,(Xe1 H4)⟩
    |pow kk=>
     obtain ⟨rfl,rfl,rfl⟩:=QF;have hkk:kk<=8:=hgo;rcases st with _|⟨B,rest⟩
     ·exact absurd (Xo5 HR).symm (Xe6 HR)
     have Yf:1<=n:=(by have:=HN.out;simp at this;omega);obtain ⟨n1,Yu⟩:∃n1,n1+1=n:=⟨n-1,by omega⟩;have p6:wrap64 ((n:Int)-1)=(n1:Int):=(by unfold wrap64;omega);have Qn:IntKind.i64.wrap ((n:Int)-1)=(n1:Int):=(by rw[Ut];omega);have R5:=p6;have JY:=Qn;have JN:(n1:Int)<(n:Int):=(by omega);obtain ⟨mB,z8,Zj⟩:=Q7p (Xo1 HR) (j:=0) (q:=n1) (P:=B) rfl (by rw[(Xo0 HR).1];omega);obtain ⟨b1,o1,rfl⟩:∃b o,a=some ⟨b,o,none⟩:=by
      rcases (Xo0 HR).2.2.2 with h0|⟨b,o,e,_⟩
      ·rw[h0] at z8;simp at z8
      ·exact ⟨b,o,e⟩
     obtain ⟨K8,pB,lB,dB,Xx,f7⟩:=Q35 (Xo0 HR) z8;have Ju:=(Xo2 HR) mB (Ud z8);obtain ⟨Xp,D9⟩:∃Xp,Q6a k B kk=Xp:=⟨_,rfl⟩;have Jg:Y=Qdj Xp ((B::rest).drop 1):=(by rw[<-(Xo5 HR),opM,D9];cases Xp <;> rfl);have Jj:∀e,Xp=.error e->e≠0:=fun e he=>Qee (D9.trans he);have HO:=Ua (fun W (h:Q08 W pB lB dB mB)=>show Calls Tryz.prog 127 #[.slice pB lB dB,.int .i64 (kk:Int),.int .i64 (k:Int)] W (Q0u W k Xp) from by
      have h1:=Qfs pB lB dB mB kk k W h Ju hkk;rw[Zj,D9] at h1;exact h1)
     have HY:=Xh2 Jg Jj;have Yt:=Ua (fun W (h:Bw wr W)=>And.intro ((h.cell (p:=⟨b1,o1+n1,none⟩) K8).trans Xx) (And.intro ((h.cell (p:=⟨bo,i*3+1,none⟩) (US q1)).trans q1) (f7.step h)));clear D9 Jg Jj f7 Ju Zj Xx z8 K8
     go_upto_region 31 with fail
     refine Q1p (Φ:=fun U=>Bw wr U) (P:=fun U=>Code.wp _ _ _ _ U) _ (Uf _ _) ?_;intro U hU;have HC:=Ua (fun W (h:Bw U W)=>Yt.out W (Below.next0 hU h));have HU:=Ua hU;clear hU q0 q1 q2;refine Q0c (E:=Qap) (fun _=>Uf _ _) (by kernel_rfl) (fun W=>Bw U W) (fun _ _ h h'=>Below.next0 h h') (Q3x [.slice (some ⟨b1,o1,none⟩) n c,.int .i64 (n:Int),.int .i64 (n1:Int),.pointer (some ⟨b1,o1+n1,none⟩),.slice pB lB dB,.slice (some ⟨bo,0,none⟩) no co,.int .i64 (i:Int),.pointer (some ⟨bo,i*3,none⟩),.pointer (some ⟨bo,i*3+1,none⟩),.int .i64 (kk:Int),.int .i64 (k:Int),undef,undef,undef,.int .i64 (Q8x Xp),undef,.int .i64 (Q8x Xp)] (Q1n [(11,Qd9 k Xp),(12,Qd9 k Xp),(13,Q9t k Xp),(15,Q9t k Xp)])) (Q0h (Q0m (Qkr (Q1z _ _) (Q1z _ _) (Q1j _ _) (Q1j _ _)))) (Q22 (by kernel_rfl)) (by kernel_rfl) (Q05 U) ?_ ?_
     ·skip
      repeat' (first|exact Q98|refine Q97 ?_ ?_)
      all_goals first
       |(refine Q29 rfl fun A W hW F0 hd hd=>?_
         simp[Q82,Region.binds,Q1n] at hd;have e6:=Q0d F0 6 (by kernel_rfl) rfl;have e10:=Q0d F0 10 (by kernel_rfl) rfl;have e0:=Q0d F0 0 (by kernel_rfl) rfl;have e7:=Q0d F0 7 (by kernel_rfl) rfl;have e1:=Q0d F0 1 (by kernel_rfl) rfl;refine Q3n rfl rfl ?_;simp[go_sem,hd,e6,e10,e0,e7,e1,p6,R5,Qn,JY,JN,(HC.out W hW).1,hlti,(HC.out W hW).2.1]
         done)
       |skip
      ·intro A W hW F0 A0;have e142:=Q0o A0 4 (by decide) rfl rfl rfl;have e147:=Q0o A0 9 (by decide) rfl rfl rfl;have e148:=Q0o A0 10 (by decide) rfl rfl rfl;refine Q04 rfl ?_;have ea:=Q0o A0 4 (by decide) rfl rfl rfl;have eb:=Q0o A0 9 (by decide) rfl rfl rfl;have ek:=Q0o A0 10 (by decide) rfl rfl rfl;refine Q0y (f:=127) (args:= #[.slice pB lB dB,.int .i64 (kk:Int),.int .i64 (k:Int)]) (by simp[go_sem,ea,eb,ek]) ((HO.out W (HC.out W hW).2.2).mono ?_);rintro e W2 Y0;obtain ⟨x8,rfl,A4,B4⟩:=Y0.polyT;exact ⟨_,rfl,B4,(Q00 rfl).2 ⟨x8,rfl,A4⟩⟩
      ·intro A W hW F0 A0;refine Q04 rfl ?_;obtain ⟨x8,M5,A4⟩:=(Q00 rfl).1 (A0 11 (by decide));have ec:=Q1f M5;refine Q10 (w':=W) (u:=.tuple #[x8,.int .i64 (Q8x Xp)]) (by simp[go_sem,ec]) (Uf _ _) ((Q00 rfl).2 ⟨x8,rfl,A4⟩)
      ·intro A W hW F0 A0;refine Q04 rfl ?_;obtain ⟨x8,M5,A4⟩:=(Q00 rfl).1 (A0 12 (by decide));have ec:=Q1f M5;refine Q10 (w':=W) (u:=x8) (by simp[go_sem,ec]) (Uf _ _) ((Q00 rfl).2 A4)
      ·intro A W hW F0 A0;refine Q04 rfl ?_;obtain ⟨x8,M5,A4⟩:=(Q00 rfl).1 (A0 12 (by decide));have ec:=Q1f M5;refine Q10 (w':=W) (u:=.int .i64 (Q8x Xp)) (by simp[go_sem,ec]) (Uf _ _) ((Q09 rfl).2 rfl)
      ·intro A W hW F0 A0;refine Q04 rfl ?_;have A4:=(Q00 rfl).1 (A0 13 (by decide));refine Q10 (w':=W) (u:=A.eval (.tmp 150)) (by simp[go_sem]) (Uf _ _) ((Q00 rfl).2 A4)
     intro vs W1 S1 C3;have A4:=(Q00 rfl).1 (C3 15 (by decide));have v9:vs 16=.int .i64 (Q8x Xp):=(Q09 rfl).1 (C3 16 (by decide));obtain ⟨x8,M5⟩:∃x,vs 15=x:=⟨_,rfl⟩;rw[M5] at A4;simp only[Q0s,Act.put,Uw,UK,UJ];rw[v9,M5];have HP:=Xh2 S1 A4;clear S1 C3 v9 M5 A4
     go_wp2_with fail
     go_meet;exact ⟨⟨Xp,1,(Xo0 HY),by simp,rfl,(Xe1 HY),(Xe1 HP),n,rfl,by have:=HN.out;omega⟩,Below.next0 HU.out (Xo0 HP)⟩
   case rest=>
    obtain ⟨⟨Xp,t,hYe,Z5,rfl,C1,hpv,Q,rfl,hQ⟩,QO⟩:=hcut;have I9:=(Xo3 HR);rw[hYe] at I9;have JD:=HN.out;cases Xp with
    |error er=>
     simp only[Qdj] at I9;have WH:(er==0)=false:=beq_eq_false_iff_ne.2 (C1 er rfl);obtain ⟨a8,l8,c8,rfl⟩:=hpv;have S2:X=.error er:=by
      have h3:=(Xo3 H);rw[I9] at h3;cases X with
      |error e=>injection h3 with h3;rw[h3]
      |ok P=>cases h3
     have HX:=Xh2 S2 QO;clear S2 QO hYe C1 I9 hQ Z5;simp only[Q8x]
     go_wp2_with fail
     exact ⟨rfl,.tuple #[.slice none 0 0,.int .i64 er],by simp[results,go_sem],Q0u.err (Xo0 HX) (Below.next0 (Xo4 HR) (Xe1 HX))⟩
    |ok P=>
     simp only[Qdj] at I9;obtain ⟨a8,l8,c8,ms8,rfl,XO,F6,D5⟩:=hpv;obtain ⟨q,hq⟩:∃q,q+1=Q:=⟨Q-1,by omega⟩;have hqn:q<=n:=(by omega);have Xs:q+t=st.length:=(by omega);have K4:wrap64 ((Q:Int)-1)=(q:Int):=(by unfold wrap64;omega);have Q8:IntKind.i64.wrap ((Q:Int)-1)=(q:Int):=(by rw[Ut];omega);have Wx:(Q:Int)-1=(q:Int):=(by omega);have KT:=fun W=>Qsl W a n c q (by omega);have hFc:=(Xo0 HR).step QO;obtain ⟨a7,c7,w7,i7,a9,c9,w9,M6,hF9,Z4⟩:=Qop hFc q hqn (by omega) XO 22;have Ql:=Qj2 wc;have hF9m:(F.take q++[ms8]).map (List.map Q01.term)=(P::st.drop t).reverse:=by
      rw[UP,Qv2 (Xo1 HR) Xs,List.reverse_cons,<-F6];rfl
     have hF9r:∀ms∈F.take q++[ms8],Q0z k ms:=fun ms k6=>by
      rcases UY.1 k6 with h|h
      ·exact (Xo2 HR) ms (Ty h)
      ·rw[Uy] at h;subst h;exact D5
     have HX:=Xh6 hF9 hF9m hF9r I9 (Below.next0 QO Z4) hq;clear hF9 hF9m hF9r I9 Z4 QO hYe C1 hQ Z5 hFc XO F6 D5 hq Xs;simp only[Q8x]
     go_wp2_with (first
      |(at_builtin;refine Q07 rfl (.tmp 155) (.tmp 159) 22 22 rfl _ _ rfl rfl _ _ i7 ?_)
      |(at_builtin;refine Q07 rfl (.tmp 160) (.tmp 162) 22 22 rfl _ _ rfl rfl _ _ M6 ?_))
     exact ⟨⟨i+1,a9,q+1,c9,_,_,rfl,congrArg (Value.int .i64) (by omega),by omega,(Xo0 HX),(Xo1 HX),(Xo2 HX),(Xo3 HX),by omega,Below.next0 (Xo4 HR) (Xo4 HX)⟩,by simp only[intOf];omega⟩
  ·have hlti:¬(i:Int)<(no:Int):=(by omega);rw[UZ (by omega),Q4y] at I9;have h3:=(Xo3 H);rw[I9] at h3;cases X with
   |error e=>cases h3
   |ok P=>
    injection h3 with h3;rw[h3] at Z0;have V7:F.length=1:=(by have:=congrArg List.length Z0;simpa using this);have p6:n=1:=(by rw[<-hF.1];exact V7);subst p6;obtain ⟨ms,k6⟩:∃ms,F[0]?=some ms:=⟨_,Ub (by omega)⟩;obtain ⟨b1,o1,rfl⟩:∃b o,a=some ⟨b,o,none⟩:=by
     rcases hF.2.2.2 with h0|⟨b,o,e,_⟩
     ·rw[h0] at V7;cases V7
     ·exact ⟨b,o,e⟩
    obtain ⟨_,p,l,d,N1,R9⟩:=Q35 hF k6;rw[Tu] at N1;have ZT:ms.map Q01.term=P:=by
     have h5:F=[ms]:=by
      cases F with
      |nil=>cases V7
      |cons x r=>
       have:r=[]:=Tg (by simpa using V7);subst this;simp at k6;rw[k6]
     rw[h5] at Z0;simpa using Z0
    have HX:=Xh4 R9 ZT (y7 ms (Ud k6)) Q0;clear R9 ZT y7 Q0 I9 h3 Z0 hF k6 V7
    go_wp2_with fail
    exact ⟨rfl,.tuple #[.slice p l d,.int .i64 0],by simp[results,go_sem],(Xe3 HX),p,l,d,ms,rfl,(Xo0 HX),(Xo1 HX),(Xo2 HX)⟩
end Go.Proofs.YtdilmfakkppgpaaGreatDoor
