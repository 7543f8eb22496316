/- Part 24 of the proof of LawParseBuilt: MakerP, MakerC, MakerW, MakerO, MakerZ. Condition: as each theorem says; none at the end. -/
import Derived.Test.YtdilmfakkppgpaaGreatDoorPkParseBuilt23
set_option maxRecDepth 100000
set_option maxHeartbeats 16000000
namespace Go.Proofs.YtdilmfakkppgpaaGreatDoor
open Go.RowKit WordsM
def Qxv (w:World) (k:Nat) (l:List Ex) (s6 s14:Value) (wx:World):Prop:=∃(i:Nat) (acc:Option (List Q0a)) (a:OA) (n c:Nat) (ms:List Q01),s6=.slice a n c/\s14=.int .i64 (i:Int)/\i<=l.length/\(acc=none↔i=0)/\Q08 wx a n c ms/\ms.map Q01.term=acc.getD []/\(acc≠none->Q0z k ms)/\
 Q4c k none l=Q4c k acc (l.drop i)/\Bw w wx
def Qxw (k:Nat) (r:List Ex):Except Int (List Q0a)->Except Int (List Q0a)
 | .error e=>.error e
 | .ok q=>Q4c k (some q) r
theorem Qo1 {k:Nat} {q p:List Q0a} {x:Ex} {r:List Ex} (h:Q16 k x=.ok p):Q4c k (some q) (x::r)=Qxw k r (Q8d q p):=by
 rw[Q4c,h]
 show (match Q8d q p with| .error e=>(.error e:Except Int (List Q0a))| .ok q'=>Q4c k (some q') r)=_
 cases Q8d q p <;> rfl
theorem Qi2 (k:Nat) (l:List Ex) (a c:Nat) (w:World) (hm:∀(i:Nat) (x:Ex),l[i]?=some x->Q8l k x) (C1:l≠[]) (ha:a<w.heap.size) (hl:l.length<=9223372036854775807) (hx:Qa8 (fun _=>False) w a 0 l) (hT:Q2n w):
 Calls Tryz.prog 85 #[.agg #[.int .i64 (k:Int)],.agg #[.slice (some ⟨a,0,none⟩) l.length c]] w (Q0u w k (Q4c k none l)):=by
 obtain ⟨X,hX⟩:∃X,Q4c k none l=X:=⟨_,rfl⟩;rw[hX];obtain ⟨n,hn⟩:∃n,l.length=n:=⟨_,rfl⟩;rw[hn] at hl⊢;obtain ⟨W0,I3⟩:∃W0,(w.alloc (.cells #[.int .i64 (k:Int)] 87)).alloc (.cells #[.slice (some ⟨a,0,none⟩) n c] 133)=W0:=⟨_,rfl⟩;have B2:(w.alloc (.cells #[.int .i64 (k:Int)] 87)).heap.size=w.heap.size+1:=Uo _ _;have C0:Bw w (w.alloc (.cells #[.int .i64 (k:Int)] 87)):=Ba;have D0:Bw w W0:=by rw[<-I3];exact C0.alloc (by rw[B2];omega) _
 have X6:W0.heap.size=w.heap.size+2:=by rw[<-I3,Uo,B2]
 have k0:W0.cell? ⟨w.heap.size,0,none⟩=some (.int .i64 (k:Int)):=by
  rw[<-I3,UX _ _ _ (by rw[B2];exact TB _),Ux _ _ _ _ _ _ (Ul _ _)];rfl
 have hh:W0.heap[w.heap.size+1]?=some (.cells #[.slice (some ⟨a,0,none⟩) n c] 133 (0,0)):=by
  rw[<-I3,<-B2];exact Ul _ _
 have k1:W0.cell? ⟨w.heap.size+1,0,none⟩=some (.slice (some ⟨a,0,none⟩) n c):=by rw[Ux _ _ _ _ _ _ hh];rfl
 have H:=Xh11 hm C1 ha hx hT hX hn D0 X6 k0 k1;clear hm C1 ha hx hT hX hn D0 X6 C0 B2 hh
 go_enter Tryz.func85,Tryz.ntmps85
 go_wp2_with fail
 clear I3
 go_loopw [6,14] (fun s6 s14 wr=>Qxv W0 k l s6 s14 wr) (fun _ iv _=>n-(intOf iv).toNat)
 case atStart=>exact ⟨0,none,none,0,0,[],rfl,rfl,Uu _,by simp,⟨rfl,Ug _,by decide,.inl rfl⟩,rfl,(fun h=>absurd rfl h),rfl,Uf _ _⟩
 case round=>
  obtain ⟨i,acc,a1,n1,c1,ms,rfl,rfl,hi,G7,R9,Q1,A2,O4,Q0⟩:=hrel;have R0:=(Xo6 H)
  by_cases B0:i<l.length
  ·have E0:(i:Int)<(n:Int):=(by omega);obtain ⟨x,r7⟩:∃x,l[i]?=some x:=⟨_,Ub B0⟩;obtain ⟨u,q0,hu⟩:=Qa8.get (Xo3 H) r7;have QB:=Below.next0 (Xo7 H) Q0;obtain ⟨t0,u0,rfl⟩:=hu.face;rw[UB] at q0;have q0:=(QB.cell (p:=⟨a,i,none⟩) (Xo2 H)).trans q0;have r0:=(Q0.cell (p:=⟨w.heap.size,0,none⟩) (by rw[(Xo8 H)];show w.heap.size<_;omega)).trans k0;have r1:=(Q0.cell (p:=⟨w.heap.size+1,0,none⟩) (by rw[(Xo8 H)];show w.heap.size+1<_;omega)).trans k1;have C5:=(Xo0 H) i x r7 _ wr (hu.step' QB) ((Xo4 H).step QB);obtain ⟨Y,hY⟩:∃Y,Q16 k x=Y:=⟨_,rfl⟩;rw[hY] at C5;have M9:=Qbk r7;rw[M9] at O4;have HR:=Xh9 G7 R9 Q1 A2 O4 Q0 C5 hY QB;clear G7 R9 Q1 A2 O4 Q0 C5 hY M9 r7 hu QB;cases Y with
   |error er=>
    have WH:(er==0)=false:=beq_eq_false_iff_ne.2 (Q4i k x er (Xo7 HR));have hX:X=.error er:=by
     rw[<-(Xo5 H),(Xo4 HR),Q4c,(Xo7 HR)]
    have HX:=Ua hX;clear hX
    go_wp2_with (go_at_call_of 44 (Value.agg #[.int .i64 (k:Int)]);refine (Xo6 HR).mono ?_;rintro r w3 ⟨G0,a3,l3,c3,rfl⟩;have H3:=Ua G0;clear G0)
    exact ⟨rfl,.tuple #[.slice none 0 0,.int .i64 er],by simp[results,go_sem],Q0u.err HX.out (Below.next0 (Xe8 HR) H3.out)⟩
   |ok p=>
    by_cases O1:i=0
    ·have Wn:¬((0:Int)<(i:Int)):=(by omega);have JS:=(Xo0 HR).2 O1;have HA:=Ua JS;clear JS O1
     go_wp2_with (go_at_call_of 44 (Value.agg #[.int .i64 (k:Int)]);refine (Xo6 HR).mono ?_;rintro r w3 ⟨G0,a3,l3,c3,ms3,rfl,U8,T5,r6⟩;have H3:=Xh4 G0 U8 T5 r6;clear G0 U8 T5 r6)
     refine ⟨⟨i+1,some p,a3,l3,c3,ms3,rfl,congrArg (Value.int .i64) (by omega),B0,by simp,(Xo1 H3),(Xo2 H3),fun _=>(Xe3 H3),?_,Below.next0 (Xo5 HR) (Xo0 H3)⟩,by simp only[intOf];omega⟩;rw[(Xo4 HR),Q4c,(Xo7 HR),HA.out]
    ·have Wn:(0:Int)<(i:Int):=(by omega);obtain ⟨q,hq⟩:∃q,acc=some q:=Option.ne_none_iff_exists'.1 (fun e=>O1 ((Xo0 HR).1 e));have hmq:ms.map Q01.term=q:=(by rw[(Xo2 HR),hq];rfl);have G6:=(Xo3 HR) (by rw[hq];simp);obtain ⟨Z,hZ⟩:∃Z,Q8d q p=Z:=⟨_,rfl⟩;have q7:=fun (W:World) (hW:Bw wr W) (a5:OA) (l5 c5:Nat) (ms5:List Q01) (h5:Q08 W a5 l5 c5 ms5) (t5:ms5.map Q01.term=p) (r5:Q0z k ms5)=>by
      have:=Qcj a1 n1 c1 ms a5 l5 c5 ms5 k W ((Xo1 HR).step hW) h5 G6 r5 ((Xo4 H).step (Below.next0 (Xe8 HR) hW));rw[hmq,t5,hZ] at this;exact this
     have O4:Q4c k none l=Qxw k (l.drop (i+1)) Z:=by
      rw[(Xo4 HR),hq,Qo1 (Xo7 HR),hZ]
     have HA:=Xh3 q7 O4 hZ;clear q7 O4 hq hmq G6 O1;clear hZ;cases Z with
     |error er=>
      have WH:(er==0)=false:=beq_eq_false_iff_ne.2 (Q80 (Xe2 HA));have hX:X=.error er:=(by rw[<-(Xo5 H),(Xo1 HA)];rfl);have HX:=Ua hX;clear hX
      go_wp2_with (first|(go_at_call_of 44 (Value.agg #[.int .i64 (k:Int)]);refine (Xo6 HR).mono ?_;rintro r w3 ⟨G0,a3,l3,c3,ms3,rfl,U8,T5,r6⟩;(have r0:=(G0.cell (p:=⟨w.heap.size,0,none⟩) (US r0)).trans r0);have H3:=Xh4 G0 U8 T5 r6;clear G0 U8 T5 r6)|(go_at_call_of 141 (Value.slice a1 n1 c1);refine ((Xo0 HA) _ (Xo0 H3) a3 l3 c3 ms3 (Xo1 H3) (Xo2 H3) (Xe3 H3)).mono ?_;rintro r w6 ⟨U2,a6,l6,c6,rfl⟩;have H6:=Ua U2;clear U2))
      exact ⟨rfl,.tuple #[.slice none 0 0,.int .i64 er],by simp[results,go_sem],Q0u.err HX.out (Below.next0 (Below.next0 (Xe8 HR) (Xo0 H3)) H6.out)⟩
     |ok q'=>
      go_wp2_with (first|(go_at_call_of 44 (Value.agg #[.int .i64 (k:Int)]);refine (Xo6 HR).mono ?_;rintro r w3 ⟨G0,a3,l3,c3,ms3,rfl,U8,T5,r6⟩;(have r0:=(G0.cell (p:=⟨w.heap.size,0,none⟩) (US r0)).trans r0);have H3:=Xh4 G0 U8 T5 r6;clear G0 U8 T5 r6)|(go_at_call_of 141 (Value.slice a1 n1 c1);refine ((Xo0 HA) _ (Xo0 H3) a3 l3 c3 ms3 (Xo1 H3) (Xo2 H3) (Xe3 H3)).mono ?_;rintro r w6 ⟨U2,a6,l6,c6,ms6,rfl,KW,Q5,o5⟩;have H6:=Xh4 U2 KW Q5 o5;clear U2 KW Q5 o5))
      exact ⟨⟨i+1,some q',a6,l6,c6,ms6,rfl,congrArg (Value.int .i64) (by omega),B0,by simp,(Xo1 H6),(Xo2 H6),fun _=>(Xe3 H6),(Xo1 HA),Below.next0 (Below.next0 (Xo5 HR) (Xo0 H3)) (Xo0 H6)⟩,by simp only[intOf];omega⟩
  ·have E0:¬((i:Int)<(n:Int)):=(by omega);have A6:i=l.length:=(by omega);have C1:acc≠none:=fun e=>by
    have:=G7.1 e;have:=Xai.2 (Xo1 H);omega
   rw[A6,List.drop_length,Q4c] at O4;have HS:=Xh5 R9 Q1 (A2 C1) O4 Q0;clear R9 Q1 A2 O4 Q0 G7 A6 C1 R0
   go_wp2_with fail
   refine ⟨rfl,.tuple #[.slice a1 n1 c1,.int .i64 0],by simp[results,go_sem],Below.next0 (Xo7 H) (Xe4 HS),?_⟩;rw[<-(Xo5 H),(Xo3 HS)];exact ⟨a1,n1,c1,ms,rfl,(Xo0 HS),(Xo1 HS),(Xo2 HS)⟩
theorem Q9i {W:World} {a:OA} {l c:Nat} {be:OA} {le ce:Nat} {m:Q01} (hw:WordsIn W a l c m.ws) (he:Q0j W be le ce m.es) (h1: -9223372036854775808<=m.exp) (h2:m.exp<=9223372036854775807):
 Q08 (W.alloc (.cells #[.bool m.neg,.int .i64 m.exp,.slice a l c,.slice be le ce] 44)) (some ⟨W.heap.size,0,none⟩) 1 1 [m]:=by
 have hb:Bw W (W.alloc (.cells #[.bool m.neg,.int .i64 m.exp,.slice a l c,.slice be le ce] 44)):=Ba;have hX:=Q38.new W (.bool m.neg) (.int .i64 m.exp) (.slice a l c) (.slice be le ce) 44;refine ⟨rfl,Ug _,by decide,.inr ⟨W.heap.size,0,rfl,Q0r _ _,fun j m' hm=>?_⟩⟩;cases j with
 |zero=>
  simp only[UI,Un] at hm;subst hm;exact ⟨a,l,c,be,le,ce,hX.c0,hX.c1,hX.c2,hX.c3,hw.step hb,he.step hb,h1,h2⟩
 |succ j=>simp at hm
theorem Qco {W:World} (k:Nat) (hk:k<=4):Q0j (W.alloc (.cells (Array.replicate k (nv .i64 0)) 3)) (some ⟨W.heap.size,0,none⟩) k k (List.replicate k 0):=by
 refine ⟨List.length_replicate ..,Ug _,by omega,(.new fun x hx=>by rw[TP hx];decide),.inr ⟨W.heap.size,0,rfl,Q0r _ _,fun j x hx=>?_⟩⟩;rw[Ux _ _ _ _ _ _ (Ul _ _),UB,<-UW,Array.toList_replicate];rw[TL] at hx⊢
 split at hx
 ·rename_i h;injection hx with hx;subst hx;rw[Us h];rfl
 ·cases hx
theorem Q87 (k:Nat) (n:Bool) (e:Int) (a:OA) (l c:Nat) (L:LN) (w:World) (hw:WordsIn w a l c L) (hi:Q0i n e L) (Z3:1<=k) (Y4:k<=4) (hT:Q2n w):
 Calls Tryz.prog 82 #[.agg #[.int .i64 (k:Int)],.agg #[.bool n,.int .i64 e,.slice a l c]] w (Q0u w k (Q24 [(Q28 n e L,List.replicate k 0)])):=by
 obtain ⟨X,hX⟩:∃X,Q24 [(Q28 n e L,List.replicate k 0)]=X:=⟨_,rfl⟩;rw[hX];obtain ⟨W0,I3⟩:∃W0,(w.alloc (.cells #[.int .i64 (k:Int)] 87)).alloc (.cells #[.bool n,.int .i64 e,.slice a l c] 41)=W0:=⟨_,rfl⟩;have B2:(w.alloc (.cells #[.int .i64 (k:Int)] 87)).heap.size=w.heap.size+1:=Uo _ _;have C0:Bw w (w.alloc (.cells #[.int .i64 (k:Int)] 87)):=Ba;have D0:Bw w W0:=by rw[<-I3];exact C0.alloc (by rw[B2];omega) _
 have X6:W0.heap.size=w.heap.size+2:=by rw[<-I3,Uo,B2]
 have k0:W0.cell? ⟨w.heap.size,0,none⟩=some (.int .i64 (k:Int)):=by
  rw[<-I3,UX _ _ _ (by rw[B2];exact TB _),Ux _ _ _ _ _ _ (Ul _ _)];rfl
 have hh:W0.heap[w.heap.size+1]?=some (.cells #[.bool n,.int .i64 e,.slice a l c] 41 (0,0)):=by
  rw[<-I3,<-B2];exact Ul _ _
 have k1:W0.cell? ⟨w.heap.size+1,0,none⟩=some (.bool n):=by rw[Ux _ _ _ _ _ _ hh];rfl
 have k2:W0.cell? ⟨w.heap.size+1,1,none⟩=some (.int .i64 e):=by rw[Ux _ _ _ _ _ _ hh];rfl
 have k3:W0.cell? ⟨w.heap.size+1,2,none⟩=some (.slice a l c):=by rw[Ux _ _ _ _ _ _ hh];rfl
 have U3:=Xam (P:=Tryz.prog) 42 3 (.int .i64 0) 8 Tryz.underlying42 Q47 rfl .i64 .i64 k (by omega) (by omega);rw[Q1k] at U3;have G0:Bw w (W0.alloc (.cells (Array.replicate k (nv .i64 0)) 3)):=D0.alloc D0.size _;have y6:(W0.alloc (.cells (Array.replicate k (nv .i64 0)) 3)).heap.size=W0.heap.size+1:=Uo _ _;have R0:=Q2b hi hw;have Qx:=Q9i (m:=⟨n,e,L,List.replicate k 0⟩) (hw.step G0) (Qco (W:=W0) k Y4) (by show _<=e;omega) (by show e<=_;omega);rw[y6] at Qx;have F1:=G0.alloc G0.size (.cells #[.bool n,.int .i64 e,.slice a l c,.slice (some ⟨W0.heap.size,0,none⟩) k k] 44);have M0:=Q6x F1;have Kv:=Q5u _ 1 1 _ k _ (Qx.step (Q6x (Uf _ _))) (fun m hm=>by rw[Uy] at hm;subst hm;exact ⟨Q5e k,hi⟩) Z3 Y4 (by omega) (hT.step M0);have F4:Q24 (List.map Q01.term [(⟨n,e,L,List.replicate k 0⟩:Q01)])=X:=hX;rw[F4] at Kv;have d0:(W0.alloc (.cells (Array.replicate k (nv .i64 0)) 3)).cell? ⟨w.heap.size,0,none⟩=some (.int .i64 (k:Int)):=(UX _ _ _ (by show w.heap.size<W0.heap.size;omega)).trans k0;have d1:((W0.alloc (.cells (Array.replicate k (nv .i64 0)) 3)).alloc (.cells #[.bool n,.int .i64 e,.slice a l c,.slice (some ⟨W0.heap.size,0,none⟩) k k] 44)).cell? ⟨w.heap.size,0,none⟩=some (.int .i64 (k:Int)):=(UX _ _ _ (by show w.heap.size<_;rw[y6];omega)).trans d0;have e1:(W0.alloc (.cells (Array.replicate k (nv .i64 0)) 3)).cell? ⟨w.heap.size+1,0,none⟩=some (.bool n):=(UX _ _ _ (by show w.heap.size+1<W0.heap.size;omega)).trans k1;have e2:(W0.alloc (.cells (Array.replicate k (nv .i64 0)) 3)).cell? ⟨w.heap.size+1,1,none⟩=some (.int .i64 e):=(UX _ _ _ (by show w.heap.size+1<W0.heap.size;omega)).trans k2;have e3:(W0.alloc (.cells (Array.replicate k (nv .i64 0)) 3)).cell? ⟨w.heap.size+1,2,none⟩=some (.slice a l c):=(UX _ _ _ (by show w.heap.size+1<W0.heap.size;omega)).trans k3;have H:=Xh2 Kv M0;clear Kv M0 F1 Qx G0 hX F4 hh hw hi hT C0 D0 B2 X6 y6
 go_enter Tryz.func82,Tryz.ntmps82
 go_upto_region 1 with fail
 go_region_law (refine Q2y (by rfl) 83 #[.slice (some ⟨W0.heap.size+1,0,none⟩) 1 1,.int .i64 (k:Int)] (by simp[go_sem]) ?_;refine (Xo0 H).mono ?_;rintro r w5 Y0;obtain ⟨a5,l5,c5,er,rfl⟩:=Y0.form;refine ⟨_,rfl,?_⟩;have H5:=Ua (Y0.lower (Xe1 H));clear Y0)
 all_goals go_wp2_with fail
 all_goals exact ⟨rfl,.tuple #[.slice a5 l5 c5,.int .i64 er],by simp[results,go_sem],H5.out⟩
def Qvl (w:World) (k K:Nat) (p:List Q0a) (s7 s8 s31:Value) (wx:World):Prop:=∃(i:Nat) (q:List Q0a) (a:OA) (n c:Nat) (ms:List Q01),s7=.int .i64 0/\s8=.slice a n c/\s31=.int .i64 (i:Int)/\i<=K/\Q08 wx a n c ms/\ms.map Q01.term=q/\Q0z k ms/\Qe0 p i=.ok q/\Bw w wx
theorem Qcp {p:List Q0a} {e:Int}:∀{K i:Nat},i<=K->Qe0 p i=.error e->Qe0 p K=.error e
 |0,i,hi,h=>by
  obtain rfl:i=0:=by omega
  exact h
 |K+1,i,hi,h=>by
  by_cases hiK:i=K+1
  ·subst hiK;exact h
  ·rw[Qe0,Qcp (by omega) h]
theorem Qrp {k:Nat}:Q24 [((1:Dyadic),List.replicate k (0:Int))]=.ok [(1,List.replicate k 0)]:=
 Qqi (n:=k) ⟨List.pairwise_singleton _ _,by simp,fun q hq=>by
  rw[Uy] at hq;subst hq;exact ⟨Qvf,Qly,Q5e k⟩⟩
theorem Qi3 (k:Nat) (x:Ex) (K:Nat) (u:Value) (w:World) (hm:Q8l k x) (hx:Q2v (fun _=>False) w x u) (hK:K<=8) (Z3:1<=k) (Y4:k<=4) (hT:Q2n w):
 Calls Tryz.prog 86 #[.agg #[.int .i64 (k:Int)],.agg #[u,.int .i64 (K:Int)]] w (Q0u w k (Q16 k (.pow x K))):=by
 obtain ⟨X,hX⟩:∃X,Q16 k (.pow x K)=X:=⟨_,rfl⟩;rw[hX];obtain ⟨t0,u0,rfl⟩:=hx.face;obtain ⟨W0,I3⟩:∃W0,(w.alloc (.cells #[.int .i64 (k:Int)] 87)).alloc (.cells #[.iface t0 u0,.int .i64 (K:Int)] 136)=W0:=⟨_,rfl⟩;have B2:(w.alloc (.cells #[.int .i64 (k:Int)] 87)).heap.size=w.heap.size+1:=Uo _ _;have C0:Bw w (w.alloc (.cells #[.int .i64 (k:Int)] 87)):=Ba;have D0:Bw w W0:=by rw[<-I3];exact C0.alloc (by rw[B2];omega) _
 have X6:W0.heap.size=w.heap.size+2:=by rw[<-I3,Uo,B2]
 have k0:W0.cell? ⟨w.heap.size,0,none⟩=some (.int .i64 (k:Int)):=by
  rw[<-I3,UX _ _ _ (by rw[B2];exact TB _),Ux _ _ _ _ _ _ (Ul _ _)];rfl
 have hh:W0.heap[w.heap.size+1]?=some (.cells #[.iface t0 u0,.int .i64 (K:Int)] 136 (0,0)):=by
  rw[<-I3,<-B2];exact Ul _ _
 have k1:W0.cell? ⟨w.heap.size+1,0,none⟩=some (.iface t0 u0):=by rw[Ux _ _ _ _ _ _ hh];rfl
 have k2:W0.cell? ⟨w.heap.size+1,1,none⟩=some (.int .i64 (K:Int)):=by rw[Ux _ _ _ _ _ _ hh];rfl
 have C5:=hm _ W0 (hx.step' D0) (hT.step D0);obtain ⟨Y,hY⟩:∃Y,Q16 k x=Y:=⟨_,rfl⟩;rw[hY] at C5;have A3:w.heap.size<W0.heap.size:=by omega
 have V7:w.heap.size+1<W0.heap.size:=by omega
 have H:=Xh7 C5 hY hX hT D0 A3 V7;clear C5 hY hX hT D0 X6 C0 B2 hh hm hx A3 V7
 go_enter Tryz.func86,Tryz.ntmps86
 cases Y with
 |error er=>
  have WH:(er==0)=false:=beq_eq_false_iff_ne.2 (Q4i k x er (Xo1 H));have hX:X=.error er:=by rw[<-(Xo2 H),Q16,(Xo1 H)]
  have HX:=Ua hX;clear hX
  go_wp2_with (go_at_call_of 44 (Value.agg #[.int .i64 (k:Int)]);refine (Xo0 H).mono ?_;rintro r w3 ⟨G0,a3,l3,c3,rfl⟩;have H3:=Ua G0;clear G0)
  exact ⟨rfl,.tuple #[.slice none 0 0,.int .i64 er],by simp[results,go_sem],Q0u.err HX.out (Below.next0 (Xo4 H) H3.out)⟩
 |ok p=>
  have hX:X=Q6a k p K:=by rw[<-(Xo2 H),Q16,(Xo1 H)]
  go_upto_if 21 with (go_at_call_of 44 (Value.agg #[.int .i64 (k:Int)]);refine (Xo0 H).mono ?_;rintro r w3 ⟨G0,a3,l3,c3,ms3,rfl,U8,T5,r6⟩;(have k2:=(G0.cell (p:=⟨w.heap.size+1,1,none⟩) (Xe6 H)).trans k2);(have k0:=(G0.cell (p:=⟨w.heap.size,0,none⟩) (Xo5 H)).trans k0);have H3:=Xh4 G0 U8 T5 r6;clear G0 U8 T5 r6)
  cases K with
  |zero=>
   have Zf:Calls Tryz.prog 20 #[.int .i64 1] w3.drew _:=Qa3 1 w3.drew (by decide) ((Xo3 H).step (Q6x (Below.next0 (Xo4 H) (Xo0 H3))));have J2:X=Q24 [((1:Dyadic),List.replicate k (0:Int))]:=(by rw[hX,Qrp];rfl);have HX:=Xh2 Zf J2;clear Zf hX J2;have k0d:w3.drew.cell? ⟨w.heap.size,0,none⟩=some (.int .i64 (k:Int)):=k0
   go_upto_region 5 with fail
   go_region_law (first
    |(refine Q2y (by rfl) 20 #[.int .i64 1] (by simp[go_sem]) ?_;refine (Xo0 HX).mono ?_;rintro r w4 ⟨n',e',a',l',c',L,rfl,X1,J0,J8,F1⟩;refine ⟨_,rfl,?_⟩;(have k0:=(F1.cell (p:=⟨w.heap.size,0,none⟩) (US k0d)).trans k0d);(have XH:=Below.next0 (Q6x (Below.next0 (Xo4 H) (Xo0 H3))) ⟨F1.os,F1.tape,F1.output,F1.size,F1.block⟩);(have X4:=Q87 k n' e' a' l' c' L w4 J8.toWordsIn X1 Z3 Y4 ((Xo3 H).step XH));rw[J0] at X4;(have H4:=Xh2 X4 XH);clear X1 J0 J8 F1 XH X4)
    |(refine Q2y (by rfl) 82 #[.agg #[.int .i64 (k:Int)],.agg #[.bool n',.int .i64 e',.slice a' l' c']] (by simp[go_sem]) ?_;refine (Xo0 H4).mono ?_;rintro r w5 Y0;obtain ⟨a5,l5,c5,er,rfl⟩:=Y0.form;refine ⟨_,rfl,?_⟩;have H5:=Ua (Y0.lower (Xe1 H4));clear Y0))
   all_goals go_wp2_with fail
   all_goals exact ⟨rfl,.tuple #[.slice a5 l5 c5,.int .i64 er],by simp[results,go_sem],by rw[(Xe1 HX)];exact H5.out⟩
  |succ K=>
   have HX:=Ua hX;clear hX;have K4:wrap64 ((K:Int)+1-1)=(K:Int):=(by unfold wrap64;omega);have Q8:wrap64 (K:Int)=(K:Int):=(by unfold wrap64;omega);have C1:(((K:Int)+1)==0)=false:=by rw[Ui];omega
   go_wp2_with fail
   rename World=>wz
   go_loopw [7,8,31] (fun s7 s8 s31 wr=>Qvl wz k K p s7 s8 s31 wr) (fun _ _ iv _=>K-(intOf iv).toNat)
   case atStart=>exact ⟨0,p,a3,l3,c3,ms3,rfl,rfl,rfl,Uu _,(Xo1 H3),(Xo2 H3),(Xe3 H3),rfl,Uf _ _⟩
   case round=>
    obtain ⟨i,q,a1,n1,c1,ms,rfl,rfl,rfl,hi,R9,Q1,A2,X7,Q0⟩:=hrel
    by_cases B0:i<K
    ·have E0:(i:Int)<(K:Int):=(by omega);have k0:=(Q0.cell (p:=⟨w.heap.size,0,none⟩) (US k0)).trans k0;obtain ⟨Z,hZ⟩:∃Z,Q8d q p=Z:=⟨_,rfl⟩;have q7:=Qcj a1 n1 c1 ms a3 l3 c3 ms3 k wr R9 ((Xo1 H3).step Q0) A2 (Xe3 H3) ((Xo3 H).step (Below.next0 (Below.next0 (Xo4 H) (Xo0 H3)) Q0));rw[Q1,(Xo2 H3),hZ] at q7;have T9:Qe0 p (i+1)=Z:=(by rw[Qe0,X7];exact hZ);have HA:=Xh4 q7 T9 hZ Q0;clear q7 T9 R9 Q1 A2 X7 Q0;clear hZ;cases Z with
     |error er=>
      have WH:(er==0)=false:=beq_eq_false_iff_ne.2 (Q80 (Xo2 HA));have Jz:X=.error er:=(by rw[HX.out];exact Qcp (i:=i+1) B0 (Xo1 HA));have HX6:=Ua Jz;clear Jz
      go_wp2_with (go_at_call_of 141 (Value.slice a1 n1 c1);refine (Xo0 HA).mono ?_;rintro r w6 ⟨U2,a6,l6,c6,rfl⟩;have H6:=Ua U2;clear U2)
      exact ⟨rfl,.tuple #[.slice none 0 0,.int .i64 er],by simp[results,go_sem],Q0u.err HX6.out (Below.next0 (Below.next0 (Below.next0 (Xo4 H) (Xo0 H3)) (Xe3 HA)) H6.out)⟩
     |ok q'=>
      go_wp2_with (go_at_call_of 141 (Value.slice a1 n1 c1);refine (Xo0 HA).mono ?_;rintro r w6 ⟨U2,a6,l6,c6,ms6,rfl,KW,Q5,o5⟩;have H6:=Xh4 U2 KW Q5 o5;clear U2 KW Q5 o5)
      have hrel:Qvl wz k K p (.int .i64 0) (.slice a6 l6 c6) (.int .i64 ((i:Int)+1)) w6:=⟨i+1,q',a6,l6,c6,ms6,rfl,rfl,congrArg (Value.int .i64) (by omega),B0,(Xo1 H6),(Xo2 H6),(Xe3 H6),(Xo1 HA),Below.next0 (Xe3 HA) (Xo0 H6)⟩;refine ⟨⟨_,_,_,_,_,_,_,_,_,_,_,_,_,_,_,_,_,_,hrel,rfl⟩,?_⟩;simp[intOf];omega
    ·have E0:¬((i:Int)<(K:Int)):=(by omega);have A6:i=K:=(by omega);rw[A6] at X7;have HS:=Xh5 R9 Q1 A2 X7 Q0;clear R9 Q1 A2 X7 Q0 A6
     go_wp2_with fail
     refine ⟨rfl,.tuple #[.slice a1 n1 c1,.int .i64 0],by simp[results,go_sem],Below.next0 (Below.next0 (Xo4 H) (Xo0 H3)) (Xe4 HS),?_⟩;have hXq:X=.ok q:=(by rw[HX.out];exact (Xo3 HS));rw[hXq];exact ⟨a1,n1,c1,ms,rfl,(Xo0 HS),(Xo1 HS),(Xo2 HS)⟩
theorem Qi4 (v:Value) (w:World):(Instr.typeAssert (.iface 123 v) 82 123 true).run Tryz.prog w=.ok (.tuple #[v,.bool true]) w:=by kernel_rfl
theorem Qkj (v:Value) (w:World):(Instr.typeAssert (.iface 126 v) 82 126 true).run Tryz.prog w=.ok (.tuple #[v,.bool true]) w:=by kernel_rfl
theorem Q9j (v:Value) (w:World):(Instr.typeAssert (.iface 126 v) 82 123 true).run Tryz.prog w=.ok (.tuple #[.agg #[.bool false,.int .i64 0,.slice none 0 0,.int .i64 0],.bool false]) w:=by kernel_rfl
theorem Qxx (v:Value) (w:World):(Instr.typeAssert (.iface 130 v) 82 130 true).run Tryz.prog w=.ok (.tuple #[v,.bool true]) w:=by kernel_rfl
theorem Qfk (v:Value) (w:World):(Instr.typeAssert (.iface 130 v) 82 123 true).run Tryz.prog w=.ok (.tuple #[.agg #[.bool false,.int .i64 0,.slice none 0 0,.int .i64 0],.bool false]) w:=by kernel_rfl
theorem Qcq (v:Value) (w:World):(Instr.typeAssert (.iface 130 v) 82 126 true).run Tryz.prog w=.ok (.tuple #[.agg #[.int .i64 0],.bool false]) w:=by kernel_rfl
theorem Qo2 (v:Value) (w:World):(Instr.typeAssert (.iface 133 v) 82 133 true).run Tryz.prog w=.ok (.tuple #[v,.bool true]) w:=by kernel_rfl
theorem Qae (v:Value) (w:World):(Instr.typeAssert (.iface 133 v) 82 123 true).run Tryz.prog w=.ok (.tuple #[.agg #[.bool false,.int .i64 0,.slice none 0 0,.int .i64 0],.bool false]) w:=by kernel_rfl
theorem Q8m (v:Value) (w:World):(Instr.typeAssert (.iface 133 v) 82 126 true).run Tryz.prog w=.ok (.tuple #[.agg #[.int .i64 0],.bool false]) w:=by kernel_rfl
theorem Qdg (v:Value) (w:World):(Instr.typeAssert (.iface 133 v) 82 130 true).run Tryz.prog w=.ok (.tuple #[.agg #[.slice none 0 0,.slice none 0 0],.bool false]) w:=by kernel_rfl
theorem Quc (v:Value) (w:World):(Instr.typeAssert (.iface 136 v) 82 136 true).run Tryz.prog w=.ok (.tuple #[v,.bool true]) w:=by kernel_rfl
theorem Qcr (v:Value) (w:World):(Instr.typeAssert (.iface 136 v) 82 123 true).run Tryz.prog w=.ok (.tuple #[.agg #[.bool false,.int .i64 0,.slice none 0 0,.int .i64 0],.bool false]) w:=by kernel_rfl
theorem Qaf (v:Value) (w:World):(Instr.typeAssert (.iface 136 v) 82 126 true).run Tryz.prog w=.ok (.tuple #[.agg #[.int .i64 0],.bool false]) w:=by kernel_rfl
theorem Qi5 (v:Value) (w:World):(Instr.typeAssert (.iface 136 v) 82 130 true).run Tryz.prog w=.ok (.tuple #[.agg #[.slice none 0 0,.slice none 0 0],.bool false]) w:=by kernel_rfl
theorem Qb6 (v:Value) (w:World):(Instr.typeAssert (.iface 136 v) 82 133 true).run Tryz.prog w=.ok (.tuple #[.agg #[.slice none 0 0],.bool false]) w:=by kernel_rfl
theorem Qxy (k:Nat):Q8l k (.num none):=by
 intro v w hx hT;rw[Q2v] at hx;obtain ⟨u0,u1,u2,l2,c2,rfl⟩:=hx;clear hT;rw[Q16];have has:=Qi4
 go_enter Tryz.func44,Tryz.ntmps44
 go_wp2_with fail
 go_quiet (fail)
 go_wp2_with fail
 exact ⟨rfl,.tuple #[.slice none 0 0,.int .i64 2],by simp[results,go_sem],Q0u.err rfl (Below.drewN' ((Ba).alloc (by rw[Uo];omega) _) _)⟩
theorem Qrq (k:Nat) (c:Dyadic) (Z3:1<=k) (Y4:k<=4):Q8l k (.num (some c)):=by
 intro v w hx hT;rw[Q2v] at hx;obtain ⟨n,e,a,l,q,L,rfl,hw,_,hi,hv⟩:=hx;rw[Q16];obtain ⟨W0,I3⟩:∃W0,(w.alloc (.cells #[.int .i64 (k:Int)] 87)).alloc (.cells #[.bool n,.int .i64 e,.slice a l q,.int .i64 0] 123)=W0:=⟨_,rfl⟩;have B2:(w.alloc (.cells #[.int .i64 (k:Int)] 87)).heap.size=w.heap.size+1:=Uo _ _;have C0:Bw w (w.alloc (.cells #[.int .i64 (k:Int)] 87)):=Ba;have D0:Bw w W0:=by rw[<-I3];exact C0.alloc (by rw[B2];omega) _
 have k0:W0.cell? ⟨w.heap.size,0,none⟩=some (.int .i64 (k:Int)):=by
  rw[<-I3,UX _ _ _ (by rw[B2];exact TB _),Ux _ _ _ _ _ _ (Ul _ _)];rfl
 have hh:W0.heap[w.heap.size+1]?=some (.cells #[.bool n,.int .i64 e,.slice a l q,.int .i64 0] 123 (0,0)):=by
  rw[<-I3,<-B2];exact Ul _ _
 have k1:W0.cell? ⟨w.heap.size+1,0,none⟩=some (.bool n):=by rw[Ux _ _ _ _ _ _ hh];rfl
 have k2:W0.cell? ⟨w.heap.size+1,1,none⟩=some (.int .i64 e):=by rw[Ux _ _ _ _ _ _ hh];rfl
 have k3:W0.cell? ⟨w.heap.size+1,2,none⟩=some (.slice a l q):=by rw[Ux _ _ _ _ _ _ hh];rfl
 have k4:W0.cell? ⟨w.heap.size+1,3,none⟩=some (.int .i64 0):=by rw[Ux _ _ _ _ _ _ hh];rfl
 have X4:=Q87 k n e a l q L W0 (hw.step D0) hi Z3 Y4 (hT.step D0);rw[hv] at X4;subst I3;have H:=Xh2 X4 D0;clear X4 D0 hw hi hv hT C0 B2 hh;have has:=Qi4
 go_enter Tryz.func44,Tryz.ntmps44
 go_wp2_with (go_at_call_of 82 (Value.agg #[.int .i64 (k:Int)]);refine (Xo0 H).mono ?_;rintro r w5 Y0;obtain ⟨a5,l5,c5,er,rfl⟩:=Y0.form;have H5:=Ua (Y0.lower (Xe1 H));clear Y0)
 exact ⟨rfl,.tuple #[.slice a5 l5 c5,.int .i64 er],by simp[results,go_sem],H5.out⟩
theorem Qmg {W:World} {k i:Nat} (hi:i<k) (hk:k<=4):Q0j (W.alloc (.cells ((Array.replicate k (nv .i64 0)).setIfInBounds i (.int .i64 1)) 3)) (some ⟨W.heap.size,0,none⟩) k k (Q84 k i):=by
 refine ⟨by simp[Q84],Ug _,by omega,.new fun x hx=>?_,.inr ⟨W.heap.size,0,rfl,Q0r _ _,fun j x hx=>?_⟩⟩
 ·unfold Q84 at hx;rcases List.mem_or_eq_of_mem_set hx with h|rfl
  ·rw[TP h];decide
  ·decide
 ·unfold Q84 at hx;rw[UB,Ux _ _ _ _ _ _ (Ul _ _),<-UW,Xal,Array.toList_replicate]
  by_cases e:i=j
  ·subst e;rw[TN (by simpa using hi)] at hx⊢;injection hx with hx;subst hx;rfl
  ·rw[Tj e,TL] at hx⊢
   split at hx
   ·rename_i h;injection hx with hx;subst hx;rw[Us h];rfl
   ·cases hx
theorem Qxz (k i:Nat) (hi:i<k) (Z3:1<=k) (Y4:k<=4):Q8l k (.var i):=by
 intro v w hx hT;rw[Q2v] at hx;subst hx;rw[Q16];obtain ⟨X,hX⟩:∃X,Q24 [((1:Dyadic),Q84 k i)]=X:=⟨_,rfl⟩;rw[hX];have H:=Xh2 hT hX;clear hT hX;have U3:=Xam (P:=Tryz.prog) 42 3 (.int .i64 0) 8 Tryz.underlying42 Q47 rfl .i64 .i64 k (by omega) (by omega);rw[Q1k] at U3;have Qe:(i:Int)<(k:Int):=by omega
 have h1:=Qkj;have h2:=Q9j
 go_enter Tryz.func44,Tryz.ntmps44
 obtain ⟨W2,J7⟩:∃W2,(w.alloc (.cells #[.int .i64 (k:Int)] 87)).alloc (.cells #[.int .i64 (i:Int)] 126)=W2:=⟨_,rfl⟩;have B2:(w.alloc (.cells #[.int .i64 (k:Int)] 87)).heap.size=w.heap.size+1:=Uo _ _;have D0:Bw w W2:=by rw[<-J7];exact (Ba).alloc (by rw[B2];omega) _
 have X6:W2.heap.size=w.heap.size+2:=by rw[<-J7,Uo,B2]
 have k0:W2.cell? ⟨w.heap.size,0,none⟩=some (.int .i64 (k:Int)):=by
  rw[<-J7,UX _ _ _ (by rw[B2];exact TB _),Ux _ _ _ _ _ _ (Ul _ _)];rfl
 have k1:W2.cell? ⟨w.heap.size+1,0,none⟩=some (.int .i64 (i:Int)):=by
  have hh:=Ul (w.alloc (.cells #[.int .i64 (k:Int)] 87)) (.cells #[.int .i64 (i:Int)] 126);rw[B2,J7] at hh;rw[Ux _ _ _ _ _ _ hh];rfl
 have A3:w.heap.size<W2.heap.size:=by omega
 have V7:w.heap.size+1<W2.heap.size:=by omega
 have z0:=(UX W2 (.cells (Array.replicate k (nv .i64 0)) 3) _ A3).trans k0;have z1:=(UX W2 (.cells (Array.replicate k (nv .i64 0)) 3) _ V7).trans k1;have hzn:=Ul W2 (.cells (Array.replicate k (nv .i64 0)) 3);have z2:(W2.alloc (.cells (Array.replicate k (nv .i64 0)) 3)).cell? ⟨W2.heap.size,i,none⟩=some (.int .i64 0):=by
  rw[Ux _ _ _ _ _ _ hzn];simp[hi,nv]
 have z3:(W2.alloc (.cells (Array.replicate k (nv .i64 0)) 3)).frozen? ⟨W2.heap.size,i,none⟩=false:=TC _ _ _ _ _ hzn;have G0:Bw w (W2.alloc (.cells ((Array.replicate k (nv .i64 0)).setIfInBounds i (.int .i64 1)) 3)):=D0.alloc D0.size _;have he:=Qmg (W:=W2) hi Y4;have r0:(W2.alloc (.cells ((Array.replicate k (nv .i64 0)).setIfInBounds i (.int .i64 1)) 3)).cell? ⟨w.heap.size,0,none⟩=some (.int .i64 (k:Int)):=(UX _ _ _ A3).trans k0;have hl3:w.heap.size<(W2.alloc (.cells ((Array.replicate k (nv .i64 0)).setIfInBounds i (.int .i64 1)) 3)).heap.size:=by rw[Uo];omega
 have Zf:Calls Tryz.prog 20 #[.int .i64 1] (W2.alloc (.cells ((Array.replicate k (nv .i64 0)).setIfInBounds i (.int .i64 1)) 3)).drew _:=Qa3 1 _ (by decide) ((Xo0 H).step (Q6x G0));have HZ:=Xh4 X6 D0 A3 V7;have H3:=Xh4 G0 he hl3 Zf;clear B2 X6 D0 hzn A3 V7 G0 he hl3 Zf
 go_upto_region 11 with fail
 clear z0 z1 z2 z3 k0 k1;generalize z7:World.alloc _ _=W3 at r0 H3⊢;clear z7 J7;have r0d:W3.drew.cell? ⟨w.heap.size,0,none⟩=some (.int .i64 (k:Int)):=r0
 go_region_law (first
  |(refine Q2y (by rfl) 20 #[.int .i64 1] (by simp[go_sem]) ?_;refine (Xe3 H3).mono ?_;rintro r w4 ⟨n',e',a',l',c',L,rfl,X1,J0,J8,KC⟩;refine ⟨_,rfl,?_⟩
    have F1:Bw W3 w4:=⟨KC.os,KC.tape,KC.output,KC.size,KC.block⟩;have s0:=(F1.cell (p:=⟨w.heap.size,0,none⟩) (Xo2 H3)).trans r0;have M0:=Below.next0 (Xo0 H3) F1;have Ql:=Q2b X1 J8.toWordsIn;have Qx:=Q9i (m:=⟨n',e',L,Q84 k i⟩) J8.toWordsIn ((Xo1 H3).step F1) (by show _<=e';omega) (by show e'<=_;omega);have U2:=M0.alloc M0.size (.cells #[.bool n',.int .i64 e',.slice a' l' c',.slice (some ⟨W2.heap.size,0,none⟩) k k] 44);have Kv:=Q5u _ 1 1 _ k _ Qx (fun m hm=>by rw[Uy] at hm;subst hm;exact ⟨Qe5 hi,X1⟩) Z3 Y4 (by omega) ((Xo0 H).step U2);have F4:Q24 (List.map Q01.term [(⟨n',e',L,Q84 k i⟩:Q01)])=X:=by
     rw[<-(Xe1 H)]
     show Q24 [(Q28 n' e' L,Q84 k i)]=_
     rw[J0];rfl
    rw[F4] at Kv;have s1:=(UX w4 (.cells #[.bool n',.int .i64 e',.slice a' l' c',.slice (some ⟨W2.heap.size,0,none⟩) k k] 44) _ (US s0)).trans s0;have H4:=Xh2 Kv U2;clear X1 J0 J8 F1 KC M0 Ql Qx U2 Kv F4)
  |(refine Q2y (by rfl) 83 #[.slice (some ⟨w4.heap.size,0,none⟩) 1 1,.int .i64 (k:Int)] (by simp[go_sem]) ?_;refine (Xo0 H4).mono ?_;rintro r w5 Y0;obtain ⟨a5,l5,c5,er,rfl⟩:=Y0.form;refine ⟨_,rfl,?_⟩;have H5:=Ua (Y0.lower (Xe1 H4));clear Y0))
 all_goals go_wp2_with fail
 all_goals exact ⟨rfl,.tuple #[.slice a5 l5 c5,.int .i64 er],by simp[results,go_sem],H5.out⟩
theorem Qcs:maxLen<=9223372036854775807:=by unfold maxLen;omega
theorem Qy0 (k:Nat) (l:List (Bool × Ex)) (hm:∀(i:Nat) (t:Bool) (x:Ex),l[i]?=some (t,x)->Q8l k x):Q8l k (.sum l):=by
 intro v w hx hT;rw[Q2v] at hx;obtain ⟨a,b,c,d,rfl,_,_,ha,hb,hc,E1,hd,M2,C1,hx⟩:=hx;rw[Q16];obtain ⟨n,hn⟩:∃n,l.length=n:=⟨_,rfl⟩;obtain ⟨W0,I3⟩:∃W0,(w.alloc (.cells #[.int .i64 (k:Int)] 87)).alloc (.cells #[.slice (some ⟨a,0,none⟩) n c,.slice (some ⟨b,0,none⟩) n d] 130)=W0:=⟨_,rfl⟩;have B2:(w.alloc (.cells #[.int .i64 (k:Int)] 87)).heap.size=w.heap.size+1:=Uo _ _;have C0:Bw w (w.alloc (.cells #[.int .i64 (k:Int)] 87)):=Ba;have D0:Bw w W0:=by rw[<-I3];exact C0.alloc (by rw[B2];omega) _
 have X6:W0.heap.size=w.heap.size+2:=by rw[<-I3,Uo,B2]
 have k0:W0.cell? ⟨w.heap.size,0,none⟩=some (.int .i64 (k:Int)):=by
  rw[<-I3,UX _ _ _ (by rw[B2];exact TB _),Ux _ _ _ _ _ _ (Ul _ _)];rfl
 have hh:W0.heap[w.heap.size+1]?=some (.cells #[.slice (some ⟨a,0,none⟩) n c,.slice (some ⟨b,0,none⟩) n d] 130 (0,0)):=by
  rw[<-I3,<-B2];exact Ul _ _
 have k1:W0.cell? ⟨w.heap.size+1,0,none⟩=some (.slice (some ⟨a,0,none⟩) n c):=by rw[Ux _ _ _ _ _ _ hh];rfl
 have k2:W0.cell? ⟨w.heap.size+1,1,none⟩=some (.slice (some ⟨b,0,none⟩) n d):=by rw[Ux _ _ _ _ _ _ hh];rfl
 have y5:Q2v (fun _=>False) w (.sum l) (.iface 130 (.agg #[.slice (some ⟨a,0,none⟩) l.length c,.slice (some ⟨b,0,none⟩) l.length d])):=by
  rw[Q2v];exact ⟨a,b,c,d,rfl,id,id,ha,hb,hc,E1,hd,M2,C1,hx⟩
 have U4:=y5.step' D0;rw[Q2v] at U4;obtain ⟨a',b',c',d',he,_,_,ha',J5,_,_,_,_,_,Qt⟩:=U4;injection he with _ he;injection he with he;injection he with he;injection he with JF V6;injection JF with e1 _ e3;injection e1 with e1;injection e1 with e1;injection V6 with V6;injection V6 with e4 _ e6;injection e4 with e4;injection e4 with e4;subst e1;subst e3;subst e4;subst e6;have X4:=Qi1 k l a b c d W0 hm C1 ha' J5 (Ur hc (Ur E1 Qcs)) Qt (hT.step D0);rw[hn] at X4⊢;subst I3;have H:=Xh2 X4 D0;clear X4 D0 hT C0 B2 X6 hh hx y5 Qt hm C1 ha hb ha' J5 hc E1 hd M2 hn;have t1:=Qxx;have t2:=Qfk;have t3:=Qcq
 go_enter Tryz.func44,Tryz.ntmps44
 go_wp2_with (go_at_call_of 84 (Value.agg #[.int .i64 (k:Int)]);refine (Xo0 H).mono ?_;rintro r w5 Y0;obtain ⟨a5,l5,c5,er,rfl⟩:=Y0.form;have H5:=Ua (Y0.lower (Xe1 H));clear Y0)
 exact ⟨rfl,.tuple #[.slice a5 l5 c5,.int .i64 er],by simp[results,go_sem],H5.out⟩
theorem Qy1 (k:Nat) (l:List Ex) (hm:∀(i:Nat) (x:Ex),l[i]?=some x->Q8l k x):Q8l k (.prod l):=by
 intro v w hx hT;rw[Q2v] at hx;obtain ⟨a,c,rfl,_,ha,hc,E1,C1,hx⟩:=hx;rw[Q16];obtain ⟨n,hn⟩:∃n,l.length=n:=⟨_,rfl⟩;obtain ⟨W0,I3⟩:∃W0,(w.alloc (.cells #[.int .i64 (k:Int)] 87)).alloc (.cells #[.slice (some ⟨a,0,none⟩) n c] 133)=W0:=⟨_,rfl⟩;have B2:(w.alloc (.cells #[.int .i64 (k:Int)] 87)).heap.size=w.heap.size+1:=Uo _ _;have C0:Bw w (w.alloc (.cells #[.int .i64 (k:Int)] 87)):=Ba;have D0:Bw w W0:=by rw[<-I3];exact C0.alloc (by rw[B2];omega) _
 have k0:W0.cell? ⟨w.heap.size,0,none⟩=some (.int .i64 (k:Int)):=by
  rw[<-I3,UX _ _ _ (by rw[B2];exact TB _),Ux _ _ _ _ _ _ (Ul _ _)];rfl
 have hh:W0.heap[w.heap.size+1]?=some (.cells #[.slice (some ⟨a,0,none⟩) n c] 133 (0,0)):=by
  rw[<-I3,<-B2];exact Ul _ _
 have k1:W0.cell? ⟨w.heap.size+1,0,none⟩=some (.slice (some ⟨a,0,none⟩) n c):=by rw[Ux _ _ _ _ _ _ hh];rfl
 have Qt:Qa8 (fun _=>False) W0 a 0 l:=Qa8.turn (Q0f.of_below D0 (fun _=>False)) (fun _ h=>h.elim) (fun h=>h.elim) ha hx;have X4:=Qi2 k l a c W0 hm C1 (Ue ha D0.size) (Ur hc (Ur E1 Qcs)) Qt (hT.step D0);rw[hn] at X4⊢;subst I3;have H:=Xh2 X4 D0;clear X4 D0 hT C0 B2 hh hx Qt hm C1 ha hc E1 hn;have t1:=Qo2;have t2:=Qae;have t3:=Q8m;have t4:=Qdg
 go_enter Tryz.func44,Tryz.ntmps44
 go_wp2_with (go_at_call_of 85 (Value.agg #[.int .i64 (k:Int)]);refine (Xo0 H).mono ?_;rintro r w5 Y0;obtain ⟨a5,l5,c5,er,rfl⟩:=Y0.form;have H5:=Ua (Y0.lower (Xe1 H));clear Y0)
 exact ⟨rfl,.tuple #[.slice a5 l5 c5,.int .i64 er],by simp[results,go_sem],H5.out⟩
theorem Qy2 (k:Nat) (x:Ex) (K:Nat) (hm:Q8l k x) (hK:K<=8) (Z3:1<=k) (Y4:k<=4):Q8l k (.pow x K):=by
 intro v w hx hT;rw[Q2v] at hx;obtain ⟨u,rfl,hx⟩:=hx;obtain ⟨t0,u0,rfl⟩:=hx.face;obtain ⟨X,hX⟩:∃X,Q16 k (.pow x K)=X:=⟨_,rfl⟩;rw[hX];obtain ⟨W0,I3⟩:∃W0,(w.alloc (.cells #[.int .i64 (k:Int)] 87)).alloc (.cells #[.iface t0 u0,.int .i64 (K:Int)] 136)=W0:=⟨_,rfl⟩;have B2:(w.alloc (.cells #[.int .i64 (k:Int)] 87)).heap.size=w.heap.size+1:=Uo _ _;have C0:Bw w (w.alloc (.cells #[.int .i64 (k:Int)] 87)):=Ba;have D0:Bw w W0:=by rw[<-I3];exact C0.alloc (by rw[B2];omega) _
 have k0:W0.cell? ⟨w.heap.size,0,none⟩=some (.int .i64 (k:Int)):=by
  rw[<-I3,UX _ _ _ (by rw[B2];exact TB _),Ux _ _ _ _ _ _ (Ul _ _)];rfl
 have hh:W0.heap[w.heap.size+1]?=some (.cells #[.iface t0 u0,.int .i64 (K:Int)] 136 (0,0)):=by
  rw[<-I3,<-B2];exact Ul _ _
 have k1:W0.cell? ⟨w.heap.size+1,0,none⟩=some (.iface t0 u0):=by rw[Ux _ _ _ _ _ _ hh];rfl
 have k2:W0.cell? ⟨w.heap.size+1,1,none⟩=some (.int .i64 (K:Int)):=by rw[Ux _ _ _ _ _ _ hh];rfl
 have X4:=Qi3 k x K _ W0 hm (hx.step' D0) hK Z3 Y4 (hT.step D0);rw[hX] at X4;subst I3;have H:=Xh2 X4 D0;clear X4 D0 hT C0 B2 hh hx hm hX;have t1:=Quc;have t2:=Qcr;have t3:=Qaf;have t4:=Qi5;have t5:=Qb6
 go_enter Tryz.func44,Tryz.ntmps44
 go_wp2_with (go_at_call_of 86 (Value.agg #[.int .i64 (k:Int)]);refine (Xo0 H).mono ?_;rintro r w5 Y0;obtain ⟨a5,l5,c5,er,rfl⟩:=Y0.form;have H5:=Ua (Y0.lower (Xe1 H));clear Y0)
 exact ⟨rfl,.tuple #[.slice a5 l5 c5,.int .i64 er],by simp[results,go_sem],H5.out⟩
mutual
theorem Qmh (k:Nat) (Z3:1<=k) (Y4:k<=4):∀(x:Ex),Q32 k x->Q8l k x
 | .num none,_=>Qxy k
 | .num (some c),_=>Qrq k c Z3 Y4
 | .var i,h=>by rw[Q32] at h;exact Qxz k i h Z3 Y4
 | .sum l,h=>by rw[Q32] at h;exact Qy0 k l (Qrr k Z3 Y4 l h)
 | .prod l,h=>by rw[Q32] at h;exact Qy1 k l (Qrs k Z3 Y4 l h)
 | .pow x K,h=>by rw[Q32] at h;exact Qy2 k x K (Qmh k Z3 Y4 x h.1) h.2 Z3 Y4
theorem Qrr (k:Nat) (Z3:1<=k) (Y4:k<=4):∀(l:List (Bool × Ex)),Q7b k l->∀(i:Nat) (t:Bool) (x:Ex),l[i]?=some (t,x)->Q8l k x
 |[],_,i,t,x,hi=>by simp at hi
 |(t0,x0)::r,h,0,t,x,hi=>by
  rw[Q7b] at h;simp only[UI,Un,Xbw] at hi;obtain ⟨_,rfl⟩:=hi;exact Qmh k Z3 Y4 x0 h.1
 |(t0,x0)::r,h,i+1,t,x,hi=>by
  rw[Q7b] at h;exact Qrr k Z3 Y4 r h.2 i t x (by simpa using hi)
theorem Qrs (k:Nat) (Z3:1<=k) (Y4:k<=4):∀(l:List Ex),Q7l k l->∀(i:Nat) (x:Ex),l[i]?=some x->Q8l k x
 |[],_,i,x,hi=>by simp at hi
 |x0::r,h,0,x,hi=>by
  rw[Q7l] at h;simp only[UI,Un] at hi;subst hi;exact Qmh k Z3 Y4 x0 h.1
 |x0::r,h,i+1,x,hi=>by
  rw[Q7l] at h;exact Qrs k Z3 Y4 r h.2 i x (by simpa using hi)
end
end Go.Proofs.YtdilmfakkppgpaaGreatDoor
