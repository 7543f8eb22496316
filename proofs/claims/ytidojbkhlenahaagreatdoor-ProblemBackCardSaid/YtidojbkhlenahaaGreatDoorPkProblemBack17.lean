/- Part 17. No condition. -/
import Derived.Test.YtidojbkhlenahaaGreatDoorPkProblemBack16
set_option maxRecDepth 100000
set_option maxHeartbeats 16000000
namespace Go.Proofs.YtidojbkhlenahaaGreatDoor
open Go.RowKit WordsM
def J0s (w:World) (k:Nat) (l:List (Bool × Ex)) (s6 s14:Value) (wx:World):Prop:=∃(i:Nat) (acc:Option (List Q0b)) (a:OA) (n c:Nat) (ms:List Q01),s6=.slice a n c/\s14=.int .i64 (i:Int)/\i<=l.length/\(acc=none↔i=0)/\Q08 wx a n c ms/\ms.map Q01.term=acc.getD []/\(acc≠none->Q1o k ms)/\
 Q4z k none l=Q4z k acc (l.drop i)/\Bw w wx
def J0t (w:World) (k:Nat) (p:List Q0b) (v:Value):Prop:=∃a n c ms,v=.slice a n c/\Q08 w a n c ms/\ms.map Q01.term=p/\Q1o k ms
def J0u (k:Nat) (r:List (Bool × Ex)):Except Int (List Q0b)->Except Int (List Q0b)
 | .error e=>.error e
 | .ok q=>Q4z k (some q) r
theorem Qqp {k:Nat} {q p:List Q0b} {t:Bool} {x:Ex} {r:List (Bool × Ex)} (h:Q29 k x=.ok p):Q4z k (some q) ((t,x)::r)=J0u k r (Qvl q (if t=true then Q9l p else p)):=by
 rw[Q4z,h]
 show (match Qvl q (if t=true then Q9l p else p) with| .error e=>(.error e:Except Int (List Q0b))| .ok q'=>Q4z k (some q') r)=_
 cases Qvl q (if t=true then Q9l p else p) <;> rfl
theorem Qh8 {α:Type} {l:List α} {i:Nat} {x:α} (h:l[i]?=some x):l.drop i=x::l.drop (i+1):=by
 obtain ⟨E0,rfl⟩:=Ul.1 h;exact UG E0
theorem Qjx (k:Nat) (l:List (Bool × Ex)) (a b c d:Nat) (w:World) (hm:∀(i:Nat) (t:Bool) (x:Ex),l[i]?=some (t,x)->Q96 k x) (Q0:l≠[]) (ha:a<w.heap.size) (hb:b<w.heap.size) (hl:l.length<=9223372036854775807) (hx:Qbr (fun _=>False) w a b 0 l) (hT:Q1s w):
 Calls Tryz.prog 134 #[.agg #[.int .i64 (k:Int)],.agg #[.slice (some ⟨a,0,none⟩) l.length c,.slice (some ⟨b,0,none⟩) l.length d]] w (Q1h w k (Q4z k none l)):=by
 obtain ⟨X,hX⟩:∃X,Q4z k none l=X:=⟨_,rfl⟩;rw[hX];obtain ⟨n,hn⟩:∃n,l.length=n:=⟨_,rfl⟩;rw[hn] at hl⊢;obtain ⟨W0,R1⟩:∃W0,(w.alloc (.cells #[.int .i64 (k:Int)] 124)).alloc (.cells #[.slice (some ⟨a,0,none⟩) n c,.slice (some ⟨b,0,none⟩) n d] 178)=W0:=⟨_,rfl⟩;have A3:(w.alloc (.cells #[.int .i64 (k:Int)] 124)).heap.size=w.heap.size+1:=Ui _ _;have C0:Bw w (w.alloc (.cells #[.int .i64 (k:Int)] 124)):=Ba;have D0:Bw w W0:=by rw[<-R1];exact C0.alloc (by rw[A3];omega) _
 have X5:W0.heap.size=w.heap.size+2:=by rw[<-R1,Ui,A3]
 have k0:W0.cell? ⟨w.heap.size,0,none⟩=some (.int .i64 (k:Int)):=by
  rw[<-R1,UX _ _ _ (by rw[A3];exact TF _),Uv _ _ _ _ _ _ (Um _ _)];rfl
 have hh:W0.heap[w.heap.size+1]?=some (.cells #[.slice (some ⟨a,0,none⟩) n c,.slice (some ⟨b,0,none⟩) n d] 178 (0,0)):=by
  rw[<-R1,<-A3];exact Um _ _
 have k1:W0.cell? ⟨w.heap.size+1,0,none⟩=some (.slice (some ⟨a,0,none⟩) n c):=by rw[Uv _ _ _ _ _ _ hh];rfl
 have k2:W0.cell? ⟨w.heap.size+1,1,none⟩=some (.slice (some ⟨b,0,none⟩) n d):=by rw[Uv _ _ _ _ _ _ hh];rfl
 have H:=Xh13 hm Q0 ha hb hx hT hX hn D0 X5 k0 k1 k2;clear hm Q0 ha hb hx hT hX hn D0 X5 C0 A3 hh
 go_enter Tryz.func134,Tryz.ntmps134
 go_wp2_with fail
 clear R1
 go_loopw [6,14] (fun s6 s14 wr=>J0s W0 k l s6 s14 wr) (fun _ iv _=>n-(intOf iv).toNat)
 case atStart=>exact ⟨0,none,none,0,0,[],rfl,rfl,Ut _,by simp,⟨rfl,Ue _,by decide,.inl rfl⟩,rfl,(fun h=>absurd rfl h),rfl,Ug _ _⟩
 case round=>
  obtain ⟨i,acc,a1,n1,c1,ms,rfl,rfl,hi,u6,Za,M2,P3,Y4,C1⟩:=hrel;have N0:=(Xo7 H)
  by_cases E0:i<l.length
  ·have J0:(i:Int)<(n:Int):=(by omega);obtain ⟨tx,Q9⟩:∃tx,l[i]?=some tx:=⟨_,Ua E0⟩;obtain ⟨t,x⟩:=tx;obtain ⟨⟨u,q0,hu⟩,q1⟩:=Qbr.get (Xo4 H) Q9;have S9:=Below.next0 (Xo8 H) C1;obtain ⟨t0,u0,rfl⟩:=hu.face;rw[UH] at q0 q1;have q0:=(S9.cell (p:=⟨a,i,none⟩) (Xo2 H)).trans q0;have q1:=(S9.cell (p:=⟨b,i,none⟩) (Xo3 H)).trans q1;have r0:=(C1.cell (p:=⟨w.heap.size,0,none⟩) (by rw[(Xo9 H)];show w.heap.size<_;omega)).trans k0;have r1:=(C1.cell (p:=⟨w.heap.size+1,0,none⟩) (by rw[(Xo9 H)];show w.heap.size+1<_;omega)).trans k1;have r2:=(C1.cell (p:=⟨w.heap.size+1,1,none⟩) (by rw[(Xo9 H)];show w.heap.size+1<_;omega)).trans k2;have R5:=(Xo0 H) i t x Q9 _ wr (hu.step' S9) ((Xo5 H).step S9);obtain ⟨Y,hY⟩:∃Y,Q29 k x=Y:=⟨_,rfl⟩;rw[hY] at R5;have Jd:=Qh8 Q9;rw[Jd] at Y4;have HR:=Xh9 u6 Za M2 P3 Y4 C1 R5 hY S9;clear u6 Za M2 P3 Y4 C1 R5 hY Jd Q9 hu S9;cases Y with
   |error er=>
    have ZQ:(er==0)=false:=beq_eq_false_iff_ne.2 (Q5m k x er (Xo7 HR));have hX:X=.error er:=by
     rw[<-(Xo6 H),(Xo4 HR),Q4z,(Xo7 HR)]
    have HX:=Ub hX;clear hX
    go_wp2_with (go_at_call_of 85 (Value.agg #[.int .i64 (k:Int)]);refine (Xo6 HR).mono ?_;rintro r w3 ⟨G0,a3,l3,c3,rfl⟩;have H3:=Ub G0;clear G0)
    exact ⟨rfl,.tuple #[.slice none 0 0,.int .i64 er],by simp[results,go_sem],Q1h.err HX.out (Below.next0 (Xe8 HR) H3.out)⟩
   |ok p=>
    have HZ:=Ub r0
    go_upto_if 32 with (go_at_call_of 85 (Value.agg #[.int .i64 (k:Int)]);refine (Xo6 HR).mono ?_;rintro r w3 ⟨G0,a3,l3,c3,ms3,rfl,QC,Z5,m7⟩;(have r1:=(G0.cell (p:=⟨w.heap.size+1,1,none⟩) (UA r2)).trans r2);(have q1:=(G0.cell (p:=⟨b,i,none⟩) (UA q1)).trans q1);(have r0:=(G0.cell (p:=⟨w.heap.size,0,none⟩) (UA r0)).trans r0);have H3:=Xh4 G0 QC Z5 m7;clear G0 QC Z5 m7)
    obtain ⟨p',T8⟩:∃p',(if t=true then Q9l p else p)=p':=⟨_,rfl⟩;have HP:=Ub T8;clear T8
    go_cut [9] (fun s9 wx=>J0t wx k p' s9/\Bw wr wx)
    case first=>
     cases t with
     |false=>
      go_wp2_with fail
      go_meet;refine ⟨⟨a3,l3,c3,ms3,rfl,(Xo1 H3),?_,(Xe3 H3)⟩,(Xo0 H3)⟩;rw[<-HP.out];exact (Xo2 H3)
     |true=>
      have htu:=Qqn a3 l3 c3 ms3 k w3 (Xo1 H3) (Xe3 H3);have HT:=Ub htu;clear htu
      go_wp2_with (go_at_call_of 190 (Value.slice a3 l3 c3);refine HT.out.mono ?_;rintro r w4 ⟨a4,c4,rfl,hm4,F2⟩;have H4:=Xh2 hm4 F2;clear hm4 F2)
      go_meet;refine ⟨⟨a4,l3,c4,_,rfl,(Xo0 H4),?_,Qg2 (Xe3 H3)⟩,Below.next0 (Xo0 H3) (Xe1 H4)⟩;rw[<-HP.out,Qqm,(Xo2 H3)];rfl
    case rest=>
     obtain ⟨⟨a5,l5,c5,ms5,rfl,hm5,JV,XQ⟩,Z0⟩:=hcut;have r0:=(Z0.cell (p:=⟨w.heap.size,0,none⟩) (UA HZ.out)).trans HZ.out;have H5:=Xh4 hm5 JV XQ Z0;clear hm5 JV XQ Z0
     by_cases E2:i=0
     ·have hi1:¬((0:Int)<(i:Int)):=(by omega);have hac:=(Xo0 HR).2 E2;have HA:=Ub hac;clear hac E2
      go_wp2_with fail
      refine ⟨⟨i+1,some p',a5,l5,c5,ms5,rfl,congrArg (Value.int .i64) (by omega),E0,by simp,(Xo0 H5),(Xo1 H5),fun _=>(Xo2 H5),?_,Below.next0 (Xo5 HR) (Xe3 H5)⟩,by simp only[intOf];omega⟩;rw[(Xo4 HR),Q4z,(Xo7 HR),HA.out]
      show Q4z k (some (if t=true then Q9l p else p)) _=_
      rw[HP.out]
     ·have hi1:(0:Int)<(i:Int):=(by omega);obtain ⟨q,hq⟩:∃q,acc=some q:=Option.ne_none_iff_exists'.1 (fun e=>E2 ((Xo0 HR).1 e));have hmq:ms.map Q01.term=q:=(by rw[(Xo2 HR),hq];rfl);have hrq:=(Xo3 HR) (by rw[hq];simp);have S5:=Qmg a1 n1 c1 ms a5 l5 c5 ms5 k wc ((Xo1 HR).step (Xe3 H5)) (Xo0 H5) hrq (Xo2 H5) ((Xo5 H).step (Below.next0 (Xe8 HR) (Xe3 H5)));rw[hmq,(Xo1 H5)] at S5;obtain ⟨Z,hZ⟩:∃Z,Qvl q p'=Z:=⟨_,rfl⟩;rw[hZ] at S5;have Y4:Q4z k none l=J0u k (l.drop (i+1)) Z:=by
       rw[(Xo4 HR),hq,Qqp (Xo7 HR),HP.out,hZ]
      have HA:=Xh3 S5 Y4 hZ;clear S5 Y4 hq hmq hrq E2;clear hZ;cases Z with
      |error er=>
       have ZQ:(er==0)=false:=beq_eq_false_iff_ne.2 (Q7t (Xe2 HA));have hX:X=.error er:=(by rw[<-(Xo6 H),(Xo1 HA)];rfl);have HX:=Ub hX;clear hX
       go_wp2_with (go_at_call_of 191 (Value.slice a1 n1 c1);refine (Xo0 HA).mono ?_;rintro r w6 ⟨F3,a6,l6,c6,rfl⟩;have H6:=Ub F3;clear F3)
       exact ⟨rfl,.tuple #[.slice none 0 0,.int .i64 er],by simp[results,go_sem],Q1h.err HX.out (Below.next0 (Below.next0 (Xe8 HR) (Xe3 H5)) H6.out)⟩
      |ok q'=>
       go_wp2_with (go_at_call_of 191 (Value.slice a1 n1 c1);refine (Xo0 HA).mono ?_;rintro r w6 ⟨F3,a6,l6,c6,ms6,rfl,YK,XM,Zh⟩;have H6:=Xh4 F3 YK XM Zh;clear F3 YK XM Zh)
       exact ⟨⟨i+1,some q',a6,l6,c6,ms6,rfl,congrArg (Value.int .i64) (by omega),E0,by simp,(Xo1 H6),(Xo2 H6),fun _=>(Xe3 H6),(Xo1 HA),Below.next0 (Below.next0 (Xo5 HR) (Xe3 H5)) (Xo0 H6)⟩,by simp only[intOf];omega⟩
  ·have J0:¬((i:Int)<(n:Int)):=(by omega);have I7:i=l.length:=(by omega);have Q0:acc≠none:=fun e=>by
    have:=u6.1 e;have:=Xa3.2 (Xo1 H);omega
   rw[I7,List.drop_length,Q4z] at Y4;have HS:=Xh5 Za M2 (P3 Q0) Y4 C1;clear Za M2 P3 Y4 C1 u6 I7 Q0 N0
   go_wp2_with fail
   refine ⟨rfl,.tuple #[.slice a1 n1 c1,.int .i64 0],by simp[results,go_sem],Below.next0 (Xo8 H) (Xe4 HS),?_⟩;rw[<-(Xo6 H),(Xo3 HS)];exact ⟨a1,n1,c1,ms,rfl,(Xo0 HS),(Xo1 HS),(Xo2 HS)⟩
def J0v (w:World) (k:Nat) (l:List Ex) (s6 s14:Value) (wx:World):Prop:=∃(i:Nat) (acc:Option (List Q0b)) (a:OA) (n c:Nat) (ms:List Q01),s6=.slice a n c/\s14=.int .i64 (i:Int)/\i<=l.length/\(acc=none↔i=0)/\Q08 wx a n c ms/\ms.map Q01.term=acc.getD []/\(acc≠none->Q1o k ms)/\
 Q4s k none l=Q4s k acc (l.drop i)/\Bw w wx
def J0w (k:Nat) (r:List Ex):Except Int (List Q0b)->Except Int (List Q0b)
 | .error e=>.error e
 | .ok q=>Q4s k (some q) r
theorem Qqq {k:Nat} {q p:List Q0b} {x:Ex} {r:List Ex} (h:Q29 k x=.ok p):Q4s k (some q) (x::r)=J0w k r (Qi2 q p):=by
 rw[Q4s,h]
 show (match Qi2 q p with| .error e=>(.error e:Except Int (List Q0b))| .ok q'=>Q4s k (some q') r)=_
 cases Qi2 q p <;> rfl
theorem Qjy (k:Nat) (l:List Ex) (a c:Nat) (w:World) (hm:∀(i:Nat) (x:Ex),l[i]?=some x->Q96 k x) (Q0:l≠[]) (ha:a<w.heap.size) (hl:l.length<=9223372036854775807) (hx:Qav (fun _=>False) w a 0 l) (hT:Q1s w):
 Calls Tryz.prog 135 #[.agg #[.int .i64 (k:Int)],.agg #[.slice (some ⟨a,0,none⟩) l.length c]] w (Q1h w k (Q4s k none l)):=by
 obtain ⟨X,hX⟩:∃X,Q4s k none l=X:=⟨_,rfl⟩;rw[hX];obtain ⟨n,hn⟩:∃n,l.length=n:=⟨_,rfl⟩;rw[hn] at hl⊢;obtain ⟨W0,R1⟩:∃W0,(w.alloc (.cells #[.int .i64 (k:Int)] 124)).alloc (.cells #[.slice (some ⟨a,0,none⟩) n c] 181)=W0:=⟨_,rfl⟩;have A3:(w.alloc (.cells #[.int .i64 (k:Int)] 124)).heap.size=w.heap.size+1:=Ui _ _;have C0:Bw w (w.alloc (.cells #[.int .i64 (k:Int)] 124)):=Ba;have D0:Bw w W0:=by rw[<-R1];exact C0.alloc (by rw[A3];omega) _
 have X5:W0.heap.size=w.heap.size+2:=by rw[<-R1,Ui,A3]
 have k0:W0.cell? ⟨w.heap.size,0,none⟩=some (.int .i64 (k:Int)):=by
  rw[<-R1,UX _ _ _ (by rw[A3];exact TF _),Uv _ _ _ _ _ _ (Um _ _)];rfl
 have hh:W0.heap[w.heap.size+1]?=some (.cells #[.slice (some ⟨a,0,none⟩) n c] 181 (0,0)):=by
  rw[<-R1,<-A3];exact Um _ _
 have k1:W0.cell? ⟨w.heap.size+1,0,none⟩=some (.slice (some ⟨a,0,none⟩) n c):=by rw[Uv _ _ _ _ _ _ hh];rfl
 have H:=Xh11 hm Q0 ha hx hT hX hn D0 X5 k0 k1;clear hm Q0 ha hx hT hX hn D0 X5 C0 A3 hh
 go_enter Tryz.func135,Tryz.ntmps135
 go_wp2_with fail
 clear R1
 go_loopw [6,14] (fun s6 s14 wr=>J0v W0 k l s6 s14 wr) (fun _ iv _=>n-(intOf iv).toNat)
 case atStart=>exact ⟨0,none,none,0,0,[],rfl,rfl,Ut _,by simp,⟨rfl,Ue _,by decide,.inl rfl⟩,rfl,(fun h=>absurd rfl h),rfl,Ug _ _⟩
 case round=>
  obtain ⟨i,acc,a1,n1,c1,ms,rfl,rfl,hi,u6,Za,M2,P3,Y4,C1⟩:=hrel;have N0:=(Xo6 H)
  by_cases E0:i<l.length
  ·have J0:(i:Int)<(n:Int):=(by omega);obtain ⟨x,Q9⟩:∃x,l[i]?=some x:=⟨_,Ua E0⟩;obtain ⟨u,q0,hu⟩:=Qav.get (Xo3 H) Q9;have S9:=Below.next0 (Xo7 H) C1;obtain ⟨t0,u0,rfl⟩:=hu.face;rw[UH] at q0;have q0:=(S9.cell (p:=⟨a,i,none⟩) (Xo2 H)).trans q0;have r0:=(C1.cell (p:=⟨w.heap.size,0,none⟩) (by rw[(Xo8 H)];show w.heap.size<_;omega)).trans k0;have r1:=(C1.cell (p:=⟨w.heap.size+1,0,none⟩) (by rw[(Xo8 H)];show w.heap.size+1<_;omega)).trans k1;have R5:=(Xo0 H) i x Q9 _ wr (hu.step' S9) ((Xo4 H).step S9);obtain ⟨Y,hY⟩:∃Y,Q29 k x=Y:=⟨_,rfl⟩;rw[hY] at R5;have Jd:=Qh8 Q9;rw[Jd] at Y4;have HR:=Xh9 u6 Za M2 P3 Y4 C1 R5 hY S9;clear u6 Za M2 P3 Y4 C1 R5 hY Jd Q9 hu S9;cases Y with
   |error er=>
    have ZQ:(er==0)=false:=beq_eq_false_iff_ne.2 (Q5m k x er (Xo7 HR));have hX:X=.error er:=by
     rw[<-(Xo5 H),(Xo4 HR),Q4s,(Xo7 HR)]
    have HX:=Ub hX;clear hX
    go_wp2_with (go_at_call_of 85 (Value.agg #[.int .i64 (k:Int)]);refine (Xo6 HR).mono ?_;rintro r w3 ⟨G0,a3,l3,c3,rfl⟩;have H3:=Ub G0;clear G0)
    exact ⟨rfl,.tuple #[.slice none 0 0,.int .i64 er],by simp[results,go_sem],Q1h.err HX.out (Below.next0 (Xe8 HR) H3.out)⟩
   |ok p=>
    by_cases E2:i=0
    ·have hi1:¬((0:Int)<(i:Int)):=(by omega);have hac:=(Xo0 HR).2 E2;have HA:=Ub hac;clear hac E2
     go_wp2_with (go_at_call_of 85 (Value.agg #[.int .i64 (k:Int)]);refine (Xo6 HR).mono ?_;rintro r w3 ⟨G0,a3,l3,c3,ms3,rfl,QC,Z5,m7⟩;have H3:=Xh4 G0 QC Z5 m7;clear G0 QC Z5 m7)
     refine ⟨⟨i+1,some p,a3,l3,c3,ms3,rfl,congrArg (Value.int .i64) (by omega),E0,by simp,(Xo1 H3),(Xo2 H3),fun _=>(Xe3 H3),?_,Below.next0 (Xo5 HR) (Xo0 H3)⟩,by simp only[intOf];omega⟩;rw[(Xo4 HR),Q4s,(Xo7 HR),HA.out]
    ·have hi1:(0:Int)<(i:Int):=(by omega);obtain ⟨q,hq⟩:∃q,acc=some q:=Option.ne_none_iff_exists'.1 (fun e=>E2 ((Xo0 HR).1 e));have hmq:ms.map Q01.term=q:=(by rw[(Xo2 HR),hq];rfl);have hrq:=(Xo3 HR) (by rw[hq];simp);obtain ⟨Z,hZ⟩:∃Z,Qi2 q p=Z:=⟨_,rfl⟩;have U9:=fun (W:World) (hW:Bw wr W) (a5:OA) (l5 c5:Nat) (ms5:List Q01) (h5:Q08 W a5 l5 c5 ms5) (t5:ms5.map Q01.term=p) (r5:Q1o k ms5)=>by
      have:=Qdt a1 n1 c1 ms a5 l5 c5 ms5 k W ((Xo1 HR).step hW) h5 hrq r5 ((Xo4 H).step (Below.next0 (Xe8 HR) hW));rw[hmq,t5,hZ] at this;exact this
     have Y4:Q4s k none l=J0w k (l.drop (i+1)) Z:=by
      rw[(Xo4 HR),hq,Qqq (Xo7 HR),hZ]
     have HA:=Xh3 U9 Y4 hZ;clear U9 Y4 hq hmq hrq E2;clear hZ;cases Z with
     |error er=>
      have ZQ:(er==0)=false:=beq_eq_false_iff_ne.2 (Qc8 (Xe2 HA));have hX:X=.error er:=(by rw[<-(Xo5 H),(Xo1 HA)];rfl);have HX:=Ub hX;clear hX
      go_wp2_with (first|(go_at_call_of 85 (Value.agg #[.int .i64 (k:Int)]);refine (Xo6 HR).mono ?_;rintro r w3 ⟨G0,a3,l3,c3,ms3,rfl,QC,Z5,m7⟩;(have r0:=(G0.cell (p:=⟨w.heap.size,0,none⟩) (UA r0)).trans r0);have H3:=Xh4 G0 QC Z5 m7;clear G0 QC Z5 m7)|(go_at_call_of 192 (Value.slice a1 n1 c1);refine ((Xo0 HA) _ (Xo0 H3) a3 l3 c3 ms3 (Xo1 H3) (Xo2 H3) (Xe3 H3)).mono ?_;rintro r w6 ⟨F3,a6,l6,c6,rfl⟩;have H6:=Ub F3;clear F3))
      exact ⟨rfl,.tuple #[.slice none 0 0,.int .i64 er],by simp[results,go_sem],Q1h.err HX.out (Below.next0 (Below.next0 (Xe8 HR) (Xo0 H3)) H6.out)⟩
     |ok q'=>
      go_wp2_with (first|(go_at_call_of 85 (Value.agg #[.int .i64 (k:Int)]);refine (Xo6 HR).mono ?_;rintro r w3 ⟨G0,a3,l3,c3,ms3,rfl,QC,Z5,m7⟩;(have r0:=(G0.cell (p:=⟨w.heap.size,0,none⟩) (UA r0)).trans r0);have H3:=Xh4 G0 QC Z5 m7;clear G0 QC Z5 m7)|(go_at_call_of 192 (Value.slice a1 n1 c1);refine ((Xo0 HA) _ (Xo0 H3) a3 l3 c3 ms3 (Xo1 H3) (Xo2 H3) (Xe3 H3)).mono ?_;rintro r w6 ⟨F3,a6,l6,c6,ms6,rfl,YK,XM,Zh⟩;have H6:=Xh4 F3 YK XM Zh;clear F3 YK XM Zh))
      exact ⟨⟨i+1,some q',a6,l6,c6,ms6,rfl,congrArg (Value.int .i64) (by omega),E0,by simp,(Xo1 H6),(Xo2 H6),fun _=>(Xe3 H6),(Xo1 HA),Below.next0 (Below.next0 (Xo5 HR) (Xo0 H3)) (Xo0 H6)⟩,by simp only[intOf];omega⟩
  ·have J0:¬((i:Int)<(n:Int)):=(by omega);have I7:i=l.length:=(by omega);have Q0:acc≠none:=fun e=>by
    have:=u6.1 e;have:=Xa3.2 (Xo1 H);omega
   rw[I7,List.drop_length,Q4s] at Y4;have HS:=Xh5 Za M2 (P3 Q0) Y4 C1;clear Za M2 P3 Y4 C1 u6 I7 Q0 N0
   go_wp2_with fail
   refine ⟨rfl,.tuple #[.slice a1 n1 c1,.int .i64 0],by simp[results,go_sem],Below.next0 (Xo7 H) (Xe4 HS),?_⟩;rw[<-(Xo5 H),(Xo3 HS)];exact ⟨a1,n1,c1,ms,rfl,(Xo0 HS),(Xo1 HS),(Xo2 HS)⟩
theorem Qog {W:World} {a:OA} {l c:Nat} {be:OA} {le ce:Nat} {m:Q01} (hw:WordsIn W a l c m.ws) (he:Q0g W be le ce m.es) (h1: -9223372036854775808<=m.exp) (h2:m.exp<=9223372036854775807):
 Q08 (W.alloc (.cells #[.bool m.neg,.int .i64 m.exp,.slice a l c,.slice be le ce] 98)) (some ⟨W.heap.size,0,none⟩) 1 1 [m]:=by
 have hb:Bw W (W.alloc (.cells #[.bool m.neg,.int .i64 m.exp,.slice a l c,.slice be le ce] 98)):=Ba;have hX:=Q34.new W (.bool m.neg) (.int .i64 m.exp) (.slice a l c) (.slice be le ce) 98;refine ⟨rfl,Ue _,by decide,.inr ⟨W.heap.size,0,rfl,Q0h _ _,fun j m' hm=>?_⟩⟩;cases j with
 |zero=>
  simp only[UD,Uj] at hm;subst hm;exact ⟨a,l,c,be,le,ce,hX.c0,hX.c1,hX.c2,hX.c3,hw.step hb,he.step hb,h1,h2⟩
 |succ j=>simp at hm
theorem Qub {W:World} (k:Nat) (hk:k<=4):Q0g (W.alloc (.cells (Array.replicate k (nv .i64 0)) 3)) (some ⟨W.heap.size,0,none⟩) k k (List.replicate k 0):=by
 refine ⟨List.length_replicate ..,Ue _,by omega,(.new fun x hx=>by rw[TM hx];decide),.inr ⟨W.heap.size,0,rfl,Q0h _ _,fun j x hx=>?_⟩⟩;rw[Uv _ _ _ _ _ _ (Um _ _),UH,<-Ts,Array.toList_replicate];rw[TD] at hx⊢
 split at hx
 ·rename_i h;injection hx with hx;subst hx;rw[Us h];rfl
 ·cases hx
theorem Q8o (k:Nat) (n:Bool) (e:Int) (a:OA) (l c:Nat) (L:LN) (w:World) (hw:WordsIn w a l c L) (hi:Q0a n e L) (X2:1<=k) (Y5:k<=4) (hT:Q1s w):
 Calls Tryz.prog 132 #[.agg #[.int .i64 (k:Int)],.agg #[.bool n,.int .i64 e,.slice a l c]] w (Q1h w k (Q25 [(Q1p n e L,List.replicate k 0)])):=by
 obtain ⟨X,hX⟩:∃X,Q25 [(Q1p n e L,List.replicate k 0)]=X:=⟨_,rfl⟩;rw[hX];obtain ⟨W0,R1⟩:∃W0,(w.alloc (.cells #[.int .i64 (k:Int)] 124)).alloc (.cells #[.bool n,.int .i64 e,.slice a l c] 26)=W0:=⟨_,rfl⟩;have A3:(w.alloc (.cells #[.int .i64 (k:Int)] 124)).heap.size=w.heap.size+1:=Ui _ _;have C0:Bw w (w.alloc (.cells #[.int .i64 (k:Int)] 124)):=Ba;have D0:Bw w W0:=by rw[<-R1];exact C0.alloc (by rw[A3];omega) _
 have X5:W0.heap.size=w.heap.size+2:=by rw[<-R1,Ui,A3]
 have k0:W0.cell? ⟨w.heap.size,0,none⟩=some (.int .i64 (k:Int)):=by
  rw[<-R1,UX _ _ _ (by rw[A3];exact TF _),Uv _ _ _ _ _ _ (Um _ _)];rfl
 have hh:W0.heap[w.heap.size+1]?=some (.cells #[.bool n,.int .i64 e,.slice a l c] 26 (0,0)):=by
  rw[<-R1,<-A3];exact Um _ _
 have k1:W0.cell? ⟨w.heap.size+1,0,none⟩=some (.bool n):=by rw[Uv _ _ _ _ _ _ hh];rfl
 have k2:W0.cell? ⟨w.heap.size+1,1,none⟩=some (.int .i64 e):=by rw[Uv _ _ _ _ _ _ hh];rfl
 have k3:W0.cell? ⟨w.heap.size+1,2,none⟩=some (.slice a l c):=by rw[Uv _ _ _ _ _ _ hh];rfl
 have C4:=Xa8 (P:=Tryz.prog) 96 3 (.int .i64 0) 8 Tryz.underlying96 Q9z rfl .i64 .i64 k (by omega) (by omega);rw[Q22] at C4;have G0:Bw w (W0.alloc (.cells (Array.replicate k (nv .i64 0)) 3)):=D0.alloc D0.size _;have p5:(W0.alloc (.cells (Array.replicate k (nv .i64 0)) 3)).heap.size=W0.heap.size+1:=Ui _ _;have N0:=Q2h hi hw;have QZ:=Qog (m:=⟨n,e,L,List.replicate k 0⟩) (hw.step G0) (Qub (W:=W0) k Y5) (by show _<=e;omega) (by show e<=_;omega);rw[p5] at QZ;have F2:=G0.alloc G0.size (.cells #[.bool n,.int .i64 e,.slice a l c,.slice (some ⟨W0.heap.size,0,none⟩) k k] 98);have Z0:=Q87 F2;have KM:=Q5x _ 1 1 _ k _ (QZ.step (Q87 (Ug _ _))) (fun m hm=>by rw[Ux] at hm;subst hm;exact ⟨Qdo k,hi⟩) X2 Y5 (by omega) (hT.step Z0);have E6:Q25 (List.map Q01.term [(⟨n,e,L,List.replicate k 0⟩:Q01)])=X:=hX;rw[E6] at KM;have d0:(W0.alloc (.cells (Array.replicate k (nv .i64 0)) 3)).cell? ⟨w.heap.size,0,none⟩=some (.int .i64 (k:Int)):=(UX _ _ _ (by show w.heap.size<W0.heap.size;omega)).trans k0;have d1:((W0.alloc (.cells (Array.replicate k (nv .i64 0)) 3)).alloc (.cells #[.bool n,.int .i64 e,.slice a l c,.slice (some ⟨W0.heap.size,0,none⟩) k k] 98)).cell? ⟨w.heap.size,0,none⟩=some (.int .i64 (k:Int)):=(UX _ _ _ (by show w.heap.size<_;rw[p5];omega)).trans d0;have e1:(W0.alloc (.cells (Array.replicate k (nv .i64 0)) 3)).cell? ⟨w.heap.size+1,0,none⟩=some (.bool n):=(UX _ _ _ (by show w.heap.size+1<W0.heap.size;omega)).trans k1;have e2:(W0.alloc (.cells (Array.replicate k (nv .i64 0)) 3)).cell? ⟨w.heap.size+1,1,none⟩=some (.int .i64 e):=(UX _ _ _ (by show w.heap.size+1<W0.heap.size;omega)).trans k2;have e3:(W0.alloc (.cells (Array.replicate k (nv .i64 0)) 3)).cell? ⟨w.heap.size+1,2,none⟩=some (.slice a l c):=(UX _ _ _ (by show w.heap.size+1<W0.heap.size;omega)).trans k3;have H:=Xh2 KM Z0;clear KM Z0 F2 QZ G0 hX E6 hh hw hi hT C0 D0 A3 X5 p5
 go_enter Tryz.func132,Tryz.ntmps132
 go_upto_region 1 with fail
 go_region_law (refine Q3h (by rfl) 133 #[.slice (some ⟨W0.heap.size+1,0,none⟩) 1 1,.int .i64 (k:Int)] (by simp[go_sem]) ?_;refine (Xo0 H).mono ?_;rintro r w5 I1;obtain ⟨a5,l5,c5,er,rfl⟩:=I1.form;refine ⟨_,rfl,?_⟩;have H5:=Ub (I1.lower (Xe1 H));clear I1)
 all_goals go_wp2_with fail
 all_goals exact ⟨rfl,.tuple #[.slice a5 l5 c5,.int .i64 er],by simp[results,go_sem],H5.out⟩
def Qxw (w:World) (k K:Nat) (p:List Q0b) (s7 s8 s31:Value) (wx:World):Prop:=∃(i:Nat) (q:List Q0b) (a:OA) (n c:Nat) (ms:List Q01),s7=.int .i64 0/\s8=.slice a n c/\s31=.int .i64 (i:Int)/\i<=K/\Q08 wx a n c ms/\ms.map Q01.term=q/\Q1o k ms/\Qlc p i=.ok q/\Bw w wx
theorem Qjz {p:List Q0b} {e:Int}:∀{K i:Nat},i<=K->Qlc p i=.error e->Qlc p K=.error e
 |0,i,hi,h=>by
  obtain rfl:i=0:=by omega
  exact h
 |K+1,i,hi,h=>by
  by_cases hiK:i=K+1
  ·subst hiK;exact h
  ·rw[Qlc,Qjz (by omega) h]
theorem Quc {k:Nat}:Q25 [((1:Dyadic),List.replicate k (0:Int))]=.ok [(1,List.replicate k 0)]:=
 Qi1 (n:=k) ⟨List.pairwise_singleton _ _,by simp,fun q hq=>by
  rw[Ux] at hq;subst hq;exact ⟨Qsb,Qbz,Qdo k⟩⟩
theorem Qk0 (k:Nat) (x:Ex) (K:Nat) (u:Value) (w:World) (hm:Q96 k x) (hx:Q2w (fun _=>False) w x u) (hK:K<=8) (X2:1<=k) (Y5:k<=4) (hT:Q1s w):
 Calls Tryz.prog 136 #[.agg #[.int .i64 (k:Int)],.agg #[u,.int .i64 (K:Int)]] w (Q1h w k (Q29 k (.pow x K))):=by
 obtain ⟨X,hX⟩:∃X,Q29 k (.pow x K)=X:=⟨_,rfl⟩;rw[hX];obtain ⟨t0,u0,rfl⟩:=hx.face;obtain ⟨W0,R1⟩:∃W0,(w.alloc (.cells #[.int .i64 (k:Int)] 124)).alloc (.cells #[.iface t0 u0,.int .i64 (K:Int)] 184)=W0:=⟨_,rfl⟩;have A3:(w.alloc (.cells #[.int .i64 (k:Int)] 124)).heap.size=w.heap.size+1:=Ui _ _;have C0:Bw w (w.alloc (.cells #[.int .i64 (k:Int)] 124)):=Ba;have D0:Bw w W0:=by rw[<-R1];exact C0.alloc (by rw[A3];omega) _
 have X5:W0.heap.size=w.heap.size+2:=by rw[<-R1,Ui,A3]
 have k0:W0.cell? ⟨w.heap.size,0,none⟩=some (.int .i64 (k:Int)):=by
  rw[<-R1,UX _ _ _ (by rw[A3];exact TF _),Uv _ _ _ _ _ _ (Um _ _)];rfl
 have hh:W0.heap[w.heap.size+1]?=some (.cells #[.iface t0 u0,.int .i64 (K:Int)] 184 (0,0)):=by
  rw[<-R1,<-A3];exact Um _ _
 have k1:W0.cell? ⟨w.heap.size+1,0,none⟩=some (.iface t0 u0):=by rw[Uv _ _ _ _ _ _ hh];rfl
 have k2:W0.cell? ⟨w.heap.size+1,1,none⟩=some (.int .i64 (K:Int)):=by rw[Uv _ _ _ _ _ _ hh];rfl
 have R5:=hm _ W0 (hx.step' D0) (hT.step D0);obtain ⟨Y,hY⟩:∃Y,Q29 k x=Y:=⟨_,rfl⟩;rw[hY] at R5;have I3:w.heap.size<W0.heap.size:=by omega
 have A8:w.heap.size+1<W0.heap.size:=by omega
 have H:=Xh7 R5 hY hX hT D0 I3 A8;clear R5 hY hX hT D0 X5 C0 A3 hh hm hx I3 A8
 go_enter Tryz.func136,Tryz.ntmps136
 cases Y with
 |error er=>
  have ZQ:(er==0)=false:=beq_eq_false_iff_ne.2 (Q5m k x er (Xo1 H));have hX:X=.error er:=by rw[<-(Xo2 H),Q29,(Xo1 H)]
  have HX:=Ub hX;clear hX
  go_wp2_with (go_at_call_of 85 (Value.agg #[.int .i64 (k:Int)]);refine (Xo0 H).mono ?_;rintro r w3 ⟨G0,a3,l3,c3,rfl⟩;have H3:=Ub G0;clear G0)
  exact ⟨rfl,.tuple #[.slice none 0 0,.int .i64 er],by simp[results,go_sem],Q1h.err HX.out (Below.next0 (Xo4 H) H3.out)⟩
 |ok p=>
  have hX:X=Qne k p K:=by rw[<-(Xo2 H),Q29,(Xo1 H)]
  go_upto_if 21 with (go_at_call_of 85 (Value.agg #[.int .i64 (k:Int)]);refine (Xo0 H).mono ?_;rintro r w3 ⟨G0,a3,l3,c3,ms3,rfl,QC,Z5,m7⟩;(have k2:=(G0.cell (p:=⟨w.heap.size+1,1,none⟩) (Xe6 H)).trans k2);(have k0:=(G0.cell (p:=⟨w.heap.size,0,none⟩) (Xo5 H)).trans k0);have H3:=Xh4 G0 QC Z5 m7;clear G0 QC Z5 m7)
  cases K with
  |zero=>
   have Ju:Calls Tryz.prog 113 #[.int .i64 1] w3.drew _:=Qat 1 w3.drew (by decide) ((Xo3 H).step (Q87 (Below.next0 (Xo4 H) (Xo0 H3))));have X6:X=Q25 [((1:Dyadic),List.replicate k (0:Int))]:=(by rw[hX,Quc];rfl);have HX:=Xh2 Ju X6;clear Ju hX X6;have k0d:w3.drew.cell? ⟨w.heap.size,0,none⟩=some (.int .i64 (k:Int)):=k0
   go_upto_region 5 with fail
   go_region_law (first
    |(refine Q3h (by rfl) 113 #[.int .i64 1] (by simp[go_sem]) ?_;refine (Xo0 HX).mono ?_;rintro r w4 ⟨n',e',a',l',c',L,rfl,Z1,M0,i6,F2⟩;refine ⟨_,rfl,?_⟩;(have k0:=(F2.cell (p:=⟨w.heap.size,0,none⟩) (UA k0d)).trans k0d);(have Zv:=Below.next0 (Q87 (Below.next0 (Xo4 H) (Xo0 H3))) ⟨F2.os,F2.tape,F2.output,F2.size,F2.block⟩);(have K4:=Q8o k n' e' a' l' c' L w4 i6.toWordsIn Z1 X2 Y5 ((Xo3 H).step Zv));rw[M0] at K4;(have H4:=Xh2 K4 Zv);clear Z1 M0 i6 F2 Zv K4)
    |(refine Q3h (by rfl) 132 #[.agg #[.int .i64 (k:Int)],.agg #[.bool n',.int .i64 e',.slice a' l' c']] (by simp[go_sem]) ?_;refine (Xo0 H4).mono ?_;rintro r w5 I1;obtain ⟨a5,l5,c5,er,rfl⟩:=I1.form;refine ⟨_,rfl,?_⟩;have H5:=Ub (I1.lower (Xe1 H4));clear I1))
   all_goals go_wp2_with fail
   all_goals exact ⟨rfl,.tuple #[.slice a5 l5 c5,.int .i64 er],by simp[results,go_sem],by rw[(Xe1 HX)];exact H5.out⟩
  |succ K=>
   have HX:=Ub hX;clear hX;have G4:wrap64 ((K:Int)+1-1)=(K:Int):=(by unfold wrap64;omega);have D6:wrap64 (K:Int)=(K:Int):=(by unfold wrap64;omega);have Q0:(((K:Int)+1)==0)=false:=by rw[Uk];omega
   go_wp2_with fail
   rename World=>wz
   go_loopw [7,8,31] (fun s7 s8 s31 wr=>Qxw wz k K p s7 s8 s31 wr) (fun _ _ iv _=>K-(intOf iv).toNat)
   case atStart=>exact ⟨0,p,a3,l3,c3,ms3,rfl,rfl,rfl,Ut _,(Xo1 H3),(Xo2 H3),(Xe3 H3),rfl,Ug _ _⟩
   case round=>
    obtain ⟨i,q,a1,n1,c1,ms,rfl,rfl,rfl,hi,Za,M2,P3,QI,C1⟩:=hrel
    by_cases E0:i<K
    ·have J0:(i:Int)<(K:Int):=(by omega);have k0:=(C1.cell (p:=⟨w.heap.size,0,none⟩) (UA k0)).trans k0;obtain ⟨Z,hZ⟩:∃Z,Qi2 q p=Z:=⟨_,rfl⟩;have U9:=Qdt a1 n1 c1 ms a3 l3 c3 ms3 k wr Za ((Xo1 H3).step C1) P3 (Xe3 H3) ((Xo3 H).step (Below.next0 (Below.next0 (Xo4 H) (Xo0 H3)) C1));rw[M2,(Xo2 H3),hZ] at U9;have J6:Qlc p (i+1)=Z:=(by rw[Qlc,QI];exact hZ);have HA:=Xh4 U9 J6 hZ C1;clear U9 J6 Za M2 P3 QI C1;clear hZ;cases Z with
     |error er=>
      have ZQ:(er==0)=false:=beq_eq_false_iff_ne.2 (Qc8 (Xo2 HA));have Xv:X=.error er:=(by rw[HX.out];exact Qjz (i:=i+1) E0 (Xo1 HA));have HX6:=Ub Xv;clear Xv
      go_wp2_with (go_at_call_of 192 (Value.slice a1 n1 c1);refine (Xo0 HA).mono ?_;rintro r w6 ⟨F3,a6,l6,c6,rfl⟩;have H6:=Ub F3;clear F3)
      exact ⟨rfl,.tuple #[.slice none 0 0,.int .i64 er],by simp[results,go_sem],Q1h.err HX6.out (Below.next0 (Below.next0 (Below.next0 (Xo4 H) (Xo0 H3)) (Xe3 HA)) H6.out)⟩
     |ok q'=>
      go_wp2_with (go_at_call_of 192 (Value.slice a1 n1 c1);refine (Xo0 HA).mono ?_;rintro r w6 ⟨F3,a6,l6,c6,ms6,rfl,YK,XM,Zh⟩;have H6:=Xh4 F3 YK XM Zh;clear F3 YK XM Zh)
      have hrel:Qxw wz k K p (.int .i64 0) (.slice a6 l6 c6) (.int .i64 ((i:Int)+1)) w6:=⟨i+1,q',a6,l6,c6,ms6,rfl,rfl,congrArg (Value.int .i64) (by omega),E0,(Xo1 H6),(Xo2 H6),(Xe3 H6),(Xo1 HA),Below.next0 (Xe3 HA) (Xo0 H6)⟩;refine ⟨⟨_,_,_,_,_,_,_,_,_,_,_,_,_,_,_,_,_,_,hrel,rfl⟩,?_⟩;simp[intOf];omega
    ·have J0:¬((i:Int)<(K:Int)):=(by omega);have I7:i=K:=(by omega);rw[I7] at QI;have HS:=Xh5 Za M2 P3 QI C1;clear Za M2 P3 QI C1 I7
     go_wp2_with fail
     refine ⟨rfl,.tuple #[.slice a1 n1 c1,.int .i64 0],by simp[results,go_sem],Below.next0 (Below.next0 (Xo4 H) (Xo0 H3)) (Xe4 HS),?_⟩;have hXq:X=.ok q:=(by rw[HX.out];exact (Xo3 HS));rw[hXq];exact ⟨a1,n1,c1,ms,rfl,(Xo0 HS),(Xo1 HS),(Xo2 HS)⟩
theorem Qk1 (v:Value) (w:World):(Instr.typeAssert (.iface 171 v) 119 171 true).run Tryz.prog w=.ok (.tuple #[v,.bool true]) w:=by kernel_rfl
theorem Qmm (v:Value) (w:World):(Instr.typeAssert (.iface 174 v) 119 174 true).run Tryz.prog w=.ok (.tuple #[v,.bool true]) w:=by kernel_rfl
theorem Qa4 (v:Value) (w:World):(Instr.typeAssert (.iface 174 v) 119 171 true).run Tryz.prog w=.ok (.tuple #[.agg #[.bool false,.int .i64 0,.slice none 0 0,.int .i64 0],.bool false]) w:=by kernel_rfl
theorem J0x (v:Value) (w:World):(Instr.typeAssert (.iface 178 v) 119 178 true).run Tryz.prog w=.ok (.tuple #[v,.bool true]) w:=by kernel_rfl
theorem Qh9 (v:Value) (w:World):(Instr.typeAssert (.iface 178 v) 119 171 true).run Tryz.prog w=.ok (.tuple #[.agg #[.bool false,.int .i64 0,.slice none 0 0,.int .i64 0],.bool false]) w:=by kernel_rfl
theorem Qdy (v:Value) (w:World):(Instr.typeAssert (.iface 178 v) 119 174 true).run Tryz.prog w=.ok (.tuple #[.agg #[.int .i64 0],.bool false]) w:=by kernel_rfl
theorem Qqr (v:Value) (w:World):(Instr.typeAssert (.iface 181 v) 119 181 true).run Tryz.prog w=.ok (.tuple #[v,.bool true]) w:=by kernel_rfl
theorem Qb0 (v:Value) (w:World):(Instr.typeAssert (.iface 181 v) 119 171 true).run Tryz.prog w=.ok (.tuple #[.agg #[.bool false,.int .i64 0,.slice none 0 0,.int .i64 0],.bool false]) w:=by kernel_rfl
theorem Q97 (v:Value) (w:World):(Instr.typeAssert (.iface 181 v) 119 174 true).run Tryz.prog w=.ok (.tuple #[.agg #[.int .i64 0],.bool false]) w:=by kernel_rfl
theorem Qew (v:Value) (w:World):(Instr.typeAssert (.iface 181 v) 119 178 true).run Tryz.prog w=.ok (.tuple #[.agg #[.slice none 0 0,.slice none 0 0],.bool false]) w:=by kernel_rfl
theorem Qwy (v:Value) (w:World):(Instr.typeAssert (.iface 184 v) 119 184 true).run Tryz.prog w=.ok (.tuple #[v,.bool true]) w:=by kernel_rfl
theorem Qdz (v:Value) (w:World):(Instr.typeAssert (.iface 184 v) 119 171 true).run Tryz.prog w=.ok (.tuple #[.agg #[.bool false,.int .i64 0,.slice none 0 0,.int .i64 0],.bool false]) w:=by kernel_rfl
theorem Qb1 (v:Value) (w:World):(Instr.typeAssert (.iface 184 v) 119 174 true).run Tryz.prog w=.ok (.tuple #[.agg #[.int .i64 0],.bool false]) w:=by kernel_rfl
theorem Qk2 (v:Value) (w:World):(Instr.typeAssert (.iface 184 v) 119 178 true).run Tryz.prog w=.ok (.tuple #[.agg #[.slice none 0 0,.slice none 0 0],.bool false]) w:=by kernel_rfl
theorem Qbt (v:Value) (w:World):(Instr.typeAssert (.iface 184 v) 119 181 true).run Tryz.prog w=.ok (.tuple #[.agg #[.slice none 0 0],.bool false]) w:=by kernel_rfl
theorem J0y (k:Nat):Q96 k (.num none):=by
 intro v w hx hT;rw[Q2w] at hx;obtain ⟨u0,u1,u2,l2,c2,rfl⟩:=hx;clear hT;rw[Q29];have has:=Qk1
 go_enter Tryz.func85,Tryz.ntmps85
 go_wp2_with fail
 go_quiet (fail)
 go_wp2_with fail
 exact ⟨rfl,.tuple #[.slice none 0 0,.int .i64 2],by simp[results,go_sem],Q1h.err rfl (Below.drewN' ((Ba).alloc (by rw[Ui];omega) _) _)⟩
theorem Qud (k:Nat) (c:Dyadic) (X2:1<=k) (Y5:k<=4):Q96 k (.num (some c)):=by
 intro v w hx hT;rw[Q2w] at hx;obtain ⟨n,e,a,l,q,L,rfl,hw,_,hi,hv⟩:=hx;rw[Q29];obtain ⟨W0,R1⟩:∃W0,(w.alloc (.cells #[.int .i64 (k:Int)] 124)).alloc (.cells #[.bool n,.int .i64 e,.slice a l q,.int .i64 0] 171)=W0:=⟨_,rfl⟩;have A3:(w.alloc (.cells #[.int .i64 (k:Int)] 124)).heap.size=w.heap.size+1:=Ui _ _;have C0:Bw w (w.alloc (.cells #[.int .i64 (k:Int)] 124)):=Ba;have D0:Bw w W0:=by rw[<-R1];exact C0.alloc (by rw[A3];omega) _
 have k0:W0.cell? ⟨w.heap.size,0,none⟩=some (.int .i64 (k:Int)):=by
  rw[<-R1,UX _ _ _ (by rw[A3];exact TF _),Uv _ _ _ _ _ _ (Um _ _)];rfl
 have hh:W0.heap[w.heap.size+1]?=some (.cells #[.bool n,.int .i64 e,.slice a l q,.int .i64 0] 171 (0,0)):=by
  rw[<-R1,<-A3];exact Um _ _
 have k1:W0.cell? ⟨w.heap.size+1,0,none⟩=some (.bool n):=by rw[Uv _ _ _ _ _ _ hh];rfl
 have k2:W0.cell? ⟨w.heap.size+1,1,none⟩=some (.int .i64 e):=by rw[Uv _ _ _ _ _ _ hh];rfl
 have k3:W0.cell? ⟨w.heap.size+1,2,none⟩=some (.slice a l q):=by rw[Uv _ _ _ _ _ _ hh];rfl
 have k4:W0.cell? ⟨w.heap.size+1,3,none⟩=some (.int .i64 0):=by rw[Uv _ _ _ _ _ _ hh];rfl
 have K4:=Q8o k n e a l q L W0 (hw.step D0) hi X2 Y5 (hT.step D0);rw[hv] at K4;subst R1;have H:=Xh2 K4 D0;clear K4 D0 hw hi hv hT C0 A3 hh;have has:=Qk1
 go_enter Tryz.func85,Tryz.ntmps85
 go_wp2_with (go_at_call_of 132 (Value.agg #[.int .i64 (k:Int)]);refine (Xo0 H).mono ?_;rintro r w5 I1;obtain ⟨a5,l5,c5,er,rfl⟩:=I1.form;have H5:=Ub (I1.lower (Xe1 H));clear I1)
 exact ⟨rfl,.tuple #[.slice a5 l5 c5,.int .i64 er],by simp[results,go_sem],H5.out⟩
theorem Qwz {W:World} {k i:Nat} (hi:i<k) (hk:k<=4):Q0g (W.alloc (.cells ((Array.replicate k (nv .i64 0)).setIfInBounds i (.int .i64 1)) 3)) (some ⟨W.heap.size,0,none⟩) k k (Qbk k i):=by
 refine ⟨by simp[Qbk],Ue _,by omega,.new fun x hx=>?_,.inr ⟨W.heap.size,0,rfl,Q0h _ _,fun j x hx=>?_⟩⟩
 ·unfold Qbk at hx;rcases Xap hx with h|rfl
  ·rw[TM h];decide
  ·decide
 ·unfold Qbk at hx;rw[UH,Uv _ _ _ _ _ _ (Um _ _),<-Ts,Array.toList_setIfInBounds,Array.toList_replicate]
  by_cases e:i=j
  ·subst e;rw[TG (by simpa using hi)] at hx⊢;injection hx with hx;subst hx;rfl
  ·rw[Te e,TD] at hx⊢
   split at hx
   ·rename_i h;injection hx with hx;subst hx;rw[Us h];rfl
   ·cases hx
theorem J0z (k i:Nat) (hi:i<k) (X2:1<=k) (Y5:k<=4):Q96 k (.var i):=by
 intro v w hx hT;rw[Q2w] at hx;subst hx;rw[Q29];obtain ⟨X,hX⟩:∃X,Q25 [((1:Dyadic),Qbk k i)]=X:=⟨_,rfl⟩;rw[hX];have H:=Xh2 hT hX;clear hT hX;have C4:=Xa8 (P:=Tryz.prog) 96 3 (.int .i64 0) 8 Tryz.underlying96 Q9z rfl .i64 .i64 k (by omega) (by omega);rw[Q22] at C4;have QJ:(i:Int)<(k:Int):=by omega
 have h1:=Qmm;have h2:=Qa4
 go_enter Tryz.func85,Tryz.ntmps85
 obtain ⟨W2,I4⟩:∃W2,(w.alloc (.cells #[.int .i64 (k:Int)] 124)).alloc (.cells #[.int .i64 (i:Int)] 174)=W2:=⟨_,rfl⟩;have A3:(w.alloc (.cells #[.int .i64 (k:Int)] 124)).heap.size=w.heap.size+1:=Ui _ _;have D0:Bw w W2:=by rw[<-I4];exact (Ba).alloc (by rw[A3];omega) _
 have X5:W2.heap.size=w.heap.size+2:=by rw[<-I4,Ui,A3]
 have k0:W2.cell? ⟨w.heap.size,0,none⟩=some (.int .i64 (k:Int)):=by
  rw[<-I4,UX _ _ _ (by rw[A3];exact TF _),Uv _ _ _ _ _ _ (Um _ _)];rfl
 have k1:W2.cell? ⟨w.heap.size+1,0,none⟩=some (.int .i64 (i:Int)):=by
  have hh:=Um (w.alloc (.cells #[.int .i64 (k:Int)] 124)) (.cells #[.int .i64 (i:Int)] 174);rw[A3,I4] at hh;rw[Uv _ _ _ _ _ _ hh];rfl
 have I3:w.heap.size<W2.heap.size:=by omega
 have A8:w.heap.size+1<W2.heap.size:=by omega
 have z0:=(UX W2 (.cells (Array.replicate k (nv .i64 0)) 3) _ I3).trans k0;have z1:=(UX W2 (.cells (Array.replicate k (nv .i64 0)) 3) _ A8).trans k1;have hzn:=Um W2 (.cells (Array.replicate k (nv .i64 0)) 3);have z2:(W2.alloc (.cells (Array.replicate k (nv .i64 0)) 3)).cell? ⟨W2.heap.size,i,none⟩=some (.int .i64 0):=by
  rw[Uv _ _ _ _ _ _ hzn];simp[hi,nv]
 have z3:(W2.alloc (.cells (Array.replicate k (nv .i64 0)) 3)).frozen? ⟨W2.heap.size,i,none⟩=false:=TC _ _ _ _ _ hzn;have G0:Bw w (W2.alloc (.cells ((Array.replicate k (nv .i64 0)).setIfInBounds i (.int .i64 1)) 3)):=D0.alloc D0.size _;have he:=Qwz (W:=W2) hi Y5;have r0:(W2.alloc (.cells ((Array.replicate k (nv .i64 0)).setIfInBounds i (.int .i64 1)) 3)).cell? ⟨w.heap.size,0,none⟩=some (.int .i64 (k:Int)):=(UX _ _ _ I3).trans k0;have ZJ:w.heap.size<(W2.alloc (.cells ((Array.replicate k (nv .i64 0)).setIfInBounds i (.int .i64 1)) 3)).heap.size:=by rw[Ui];omega
 have Ju:Calls Tryz.prog 113 #[.int .i64 1] (W2.alloc (.cells ((Array.replicate k (nv .i64 0)).setIfInBounds i (.int .i64 1)) 3)).drew _:=Qat 1 _ (by decide) ((Xo0 H).step (Q87 G0));have HZ:=Xh4 X5 D0 I3 A8;have H3:=Xh4 G0 he ZJ Ju;clear A3 X5 D0 hzn I3 A8 G0 he ZJ Ju
 go_upto_region 11 with fail
 clear z0 z1 z2 z3 k0 k1;generalize g7:World.alloc _ _=W3 at r0 H3⊢;clear g7 I4;have r0d:W3.drew.cell? ⟨w.heap.size,0,none⟩=some (.int .i64 (k:Int)):=r0
 go_region_law (first
  |(refine Q3h (by rfl) 113 #[.int .i64 1] (by simp[go_sem]) ?_;refine (Xe3 H3).mono ?_;rintro r w4 ⟨n',e',a',l',c',L,rfl,Z1,M0,i6,Xf⟩;refine ⟨_,rfl,?_⟩
    have F2:Bw W3 w4:=⟨Xf.os,Xf.tape,Xf.output,Xf.size,Xf.block⟩;have s0:=(F2.cell (p:=⟨w.heap.size,0,none⟩) (Xo2 H3)).trans r0;have Z0:=Below.next0 (Xo0 H3) F2;have Y8:=Q2h Z1 i6.toWordsIn;have QZ:=Qog (m:=⟨n',e',L,Qbk k i⟩) i6.toWordsIn ((Xo1 H3).step F2) (by show _<=e';omega) (by show e'<=_;omega);have F3:=Z0.alloc Z0.size (.cells #[.bool n',.int .i64 e',.slice a' l' c',.slice (some ⟨W2.heap.size,0,none⟩) k k] 98);have KM:=Q5x _ 1 1 _ k _ QZ (fun m hm=>by rw[Ux] at hm;subst hm;exact ⟨Qpx hi,Z1⟩) X2 Y5 (by omega) ((Xo0 H).step F3);have E6:Q25 (List.map Q01.term [(⟨n',e',L,Qbk k i⟩:Q01)])=X:=by
     rw[<-(Xe1 H)]
     show Q25 [(Q1p n' e' L,Qbk k i)]=_
     rw[M0];rfl
    rw[E6] at KM;have s1:=(UX w4 (.cells #[.bool n',.int .i64 e',.slice a' l' c',.slice (some ⟨W2.heap.size,0,none⟩) k k] 98) _ (UA s0)).trans s0;have H4:=Xh2 KM F3;clear Z1 M0 i6 F2 Xf Z0 Y8 QZ F3 KM E6)
  |(refine Q3h (by rfl) 133 #[.slice (some ⟨w4.heap.size,0,none⟩) 1 1,.int .i64 (k:Int)] (by simp[go_sem]) ?_;refine (Xo0 H4).mono ?_;rintro r w5 I1;obtain ⟨a5,l5,c5,er,rfl⟩:=I1.form;refine ⟨_,rfl,?_⟩;have H5:=Ub (I1.lower (Xe1 H4));clear I1))
 all_goals go_wp2_with fail
 all_goals exact ⟨rfl,.tuple #[.slice a5 l5 c5,.int .i64 er],by simp[results,go_sem],H5.out⟩
theorem Qe0:maxLen<=9223372036854775807:=by unfold maxLen;omega
theorem J10 (k:Nat) (l:List (Bool × Ex)) (hm:∀(i:Nat) (t:Bool) (x:Ex),l[i]?=some (t,x)->Q96 k x):Q96 k (.sum l):=by
 intro v w hx hT;rw[Q2w] at hx;obtain ⟨a,b,c,d,rfl,_,_,ha,hb,hc,E1,hd,V2,Q0,hx⟩:=hx;rw[Q29];obtain ⟨n,hn⟩:∃n,l.length=n:=⟨_,rfl⟩;obtain ⟨W0,R1⟩:∃W0,(w.alloc (.cells #[.int .i64 (k:Int)] 124)).alloc (.cells #[.slice (some ⟨a,0,none⟩) n c,.slice (some ⟨b,0,none⟩) n d] 178)=W0:=⟨_,rfl⟩;have A3:(w.alloc (.cells #[.int .i64 (k:Int)] 124)).heap.size=w.heap.size+1:=Ui _ _;have C0:Bw w (w.alloc (.cells #[.int .i64 (k:Int)] 124)):=Ba;have D0:Bw w W0:=by rw[<-R1];exact C0.alloc (by rw[A3];omega) _
 have X5:W0.heap.size=w.heap.size+2:=by rw[<-R1,Ui,A3]
 have k0:W0.cell? ⟨w.heap.size,0,none⟩=some (.int .i64 (k:Int)):=by
  rw[<-R1,UX _ _ _ (by rw[A3];exact TF _),Uv _ _ _ _ _ _ (Um _ _)];rfl
 have hh:W0.heap[w.heap.size+1]?=some (.cells #[.slice (some ⟨a,0,none⟩) n c,.slice (some ⟨b,0,none⟩) n d] 178 (0,0)):=by
  rw[<-R1,<-A3];exact Um _ _
 have k1:W0.cell? ⟨w.heap.size+1,0,none⟩=some (.slice (some ⟨a,0,none⟩) n c):=by rw[Uv _ _ _ _ _ _ hh];rfl
 have k2:W0.cell? ⟨w.heap.size+1,1,none⟩=some (.slice (some ⟨b,0,none⟩) n d):=by rw[Uv _ _ _ _ _ _ hh];rfl
 have m5:Q2w (fun _=>False) w (.sum l) (.iface 178 (.agg #[.slice (some ⟨a,0,none⟩) l.length c,.slice (some ⟨b,0,none⟩) l.length d])):=by
  rw[Q2w];exact ⟨a,b,c,d,rfl,id,id,ha,hb,hc,E1,hd,V2,Q0,hx⟩
 have R4:=m5.step' D0;rw[Q2w] at R4;obtain ⟨a',b',c',d',he,_,_,YW,B4,_,_,_,_,_,QQ⟩:=R4;injection he with _ he;injection he with he;injection he with he;injection he with XB Q6;injection XB with e1 _ e3;injection e1 with e1;injection e1 with e1;injection Q6 with Q6;injection Q6 with e4 _ e6;injection e4 with e4;injection e4 with e4;subst e1;subst e3;subst e4;subst e6;have K4:=Qjx k l a b c d W0 hm Q0 YW B4 (Un hc (Un E1 Qe0)) QQ (hT.step D0);rw[hn] at K4⊢;subst R1;have H:=Xh2 K4 D0;clear K4 D0 hT C0 A3 X5 hh hx m5 QQ hm Q0 ha hb YW B4 hc E1 hd V2 hn;have t1:=J0x;have t2:=Qh9;have t3:=Qdy
 go_enter Tryz.func85,Tryz.ntmps85
 go_wp2_with (go_at_call_of 134 (Value.agg #[.int .i64 (k:Int)]);refine (Xo0 H).mono ?_;rintro r w5 I1;obtain ⟨a5,l5,c5,er,rfl⟩:=I1.form;have H5:=Ub (I1.lower (Xe1 H));clear I1)
 exact ⟨rfl,.tuple #[.slice a5 l5 c5,.int .i64 er],by simp[results,go_sem],H5.out⟩
theorem J11 (k:Nat) (l:List Ex) (hm:∀(i:Nat) (x:Ex),l[i]?=some x->Q96 k x):Q96 k (.prod l):=by
 intro v w hx hT;rw[Q2w] at hx;obtain ⟨a,c,rfl,_,ha,hc,E1,Q0,hx⟩:=hx;rw[Q29];obtain ⟨n,hn⟩:∃n,l.length=n:=⟨_,rfl⟩;obtain ⟨W0,R1⟩:∃W0,(w.alloc (.cells #[.int .i64 (k:Int)] 124)).alloc (.cells #[.slice (some ⟨a,0,none⟩) n c] 181)=W0:=⟨_,rfl⟩;have A3:(w.alloc (.cells #[.int .i64 (k:Int)] 124)).heap.size=w.heap.size+1:=Ui _ _;have C0:Bw w (w.alloc (.cells #[.int .i64 (k:Int)] 124)):=Ba;have D0:Bw w W0:=by rw[<-R1];exact C0.alloc (by rw[A3];omega) _
 have k0:W0.cell? ⟨w.heap.size,0,none⟩=some (.int .i64 (k:Int)):=by
  rw[<-R1,UX _ _ _ (by rw[A3];exact TF _),Uv _ _ _ _ _ _ (Um _ _)];rfl
 have hh:W0.heap[w.heap.size+1]?=some (.cells #[.slice (some ⟨a,0,none⟩) n c] 181 (0,0)):=by
  rw[<-R1,<-A3];exact Um _ _
 have k1:W0.cell? ⟨w.heap.size+1,0,none⟩=some (.slice (some ⟨a,0,none⟩) n c):=by rw[Uv _ _ _ _ _ _ hh];rfl
 have QQ:Qav (fun _=>False) W0 a 0 l:=Qav.turn (Q0e.of_below D0 (fun _=>False)) (fun _ h=>h.elim) (fun h=>h.elim) ha hx;have K4:=Qjy k l a c W0 hm Q0 (Uc ha D0.size) (Un hc (Un E1 Qe0)) QQ (hT.step D0);rw[hn] at K4⊢;subst R1;have H:=Xh2 K4 D0;clear K4 D0 hT C0 A3 hh hx QQ hm Q0 ha hc E1 hn;have t1:=Qqr;have t2:=Qb0;have t3:=Q97;have t4:=Qew
 go_enter Tryz.func85,Tryz.ntmps85
 go_wp2_with (go_at_call_of 135 (Value.agg #[.int .i64 (k:Int)]);refine (Xo0 H).mono ?_;rintro r w5 I1;obtain ⟨a5,l5,c5,er,rfl⟩:=I1.form;have H5:=Ub (I1.lower (Xe1 H));clear I1)
 exact ⟨rfl,.tuple #[.slice a5 l5 c5,.int .i64 er],by simp[results,go_sem],H5.out⟩
theorem J12 (k:Nat) (x:Ex) (K:Nat) (hm:Q96 k x) (hK:K<=8) (X2:1<=k) (Y5:k<=4):Q96 k (.pow x K):=by
 intro v w hx hT;rw[Q2w] at hx;obtain ⟨u,rfl,hx⟩:=hx;obtain ⟨t0,u0,rfl⟩:=hx.face;obtain ⟨X,hX⟩:∃X,Q29 k (.pow x K)=X:=⟨_,rfl⟩;rw[hX];obtain ⟨W0,R1⟩:∃W0,(w.alloc (.cells #[.int .i64 (k:Int)] 124)).alloc (.cells #[.iface t0 u0,.int .i64 (K:Int)] 184)=W0:=⟨_,rfl⟩;have A3:(w.alloc (.cells #[.int .i64 (k:Int)] 124)).heap.size=w.heap.size+1:=Ui _ _;have C0:Bw w (w.alloc (.cells #[.int .i64 (k:Int)] 124)):=Ba;have D0:Bw w W0:=by rw[<-R1];exact C0.alloc (by rw[A3];omega) _
 have k0:W0.cell? ⟨w.heap.size,0,none⟩=some (.int .i64 (k:Int)):=by
  rw[<-R1,UX _ _ _ (by rw[A3];exact TF _),Uv _ _ _ _ _ _ (Um _ _)];rfl
 have hh:W0.heap[w.heap.size+1]?=some (.cells #[.iface t0 u0,.int .i64 (K:Int)] 184 (0,0)):=by
  rw[<-R1,<-A3];exact Um _ _
 have k1:W0.cell? ⟨w.heap.size+1,0,none⟩=some (.iface t0 u0):=by rw[Uv _ _ _ _ _ _ hh];rfl
 have k2:W0.cell? ⟨w.heap.size+1,1,none⟩=some (.int .i64 (K:Int)):=by rw[Uv _ _ _ _ _ _ hh];rfl
 have K4:=Qk0 k x K _ W0 hm (hx.step' D0) hK X2 Y5 (hT.step D0);rw[hX] at K4;subst R1;have H:=Xh2 K4 D0;clear K4 D0 hT C0 A3 hh hx hm hX;have t1:=Qwy;have t2:=Qdz;have t3:=Qb1;have t4:=Qk2;have t5:=Qbt
 go_enter Tryz.func85,Tryz.ntmps85
 go_wp2_with (go_at_call_of 136 (Value.agg #[.int .i64 (k:Int)]);refine (Xo0 H).mono ?_;rintro r w5 I1;obtain ⟨a5,l5,c5,er,rfl⟩:=I1.form;have H5:=Ub (I1.lower (Xe1 H));clear I1)
 exact ⟨rfl,.tuple #[.slice a5 l5 c5,.int .i64 er],by simp[results,go_sem],H5.out⟩
mutual
theorem Qoh (k:Nat) (X2:1<=k) (Y5:k<=4):∀(x:Ex),Q48 k x->Q96 k x
 | .num none,_=>J0y k
 | .num (some c),_=>Qud k c X2 Y5
 | .var i,h=>by rw[Q48] at h;exact J0z k i h X2 Y5
 | .sum l,h=>by rw[Q48] at h;exact J10 k l (Que k X2 Y5 l h)
 | .prod l,h=>by rw[Q48] at h;exact J11 k l (Quf k X2 Y5 l h)
 | .pow x K,h=>by rw[Q48] at h;exact J12 k x K (Qoh k X2 Y5 x h.1) h.2 X2 Y5
theorem Que (k:Nat) (X2:1<=k) (Y5:k<=4):∀(l:List (Bool × Ex)),Q8f k l->∀(i:Nat) (t:Bool) (x:Ex),l[i]?=some (t,x)->Q96 k x
 |[],_,i,t,x,hi=>by simp at hi
 |(t0,x0)::r,h,0,t,x,hi=>by
  rw[Q8f] at h;simp only[UD,Uj,Xas] at hi;obtain ⟨_,rfl⟩:=hi;exact Qoh k X2 Y5 x0 h.1
 |(t0,x0)::r,h,i+1,t,x,hi=>by
  rw[Q8f] at h;exact Que k X2 Y5 r h.2 i t x (by simpa using hi)
theorem Quf (k:Nat) (X2:1<=k) (Y5:k<=4):∀(l:List Ex),Q91 k l->∀(i:Nat) (x:Ex),l[i]?=some x->Q96 k x
 |[],_,i,x,hi=>by simp at hi
 |x0::r,h,0,x,hi=>by
  rw[Q91] at h;simp only[UD,Uj] at hi;subst hi;exact Qoh k X2 Y5 x0 h.1
 |x0::r,h,i+1,x,hi=>by
  rw[Q91] at h;exact Quf k X2 Y5 r h.2 i x (by simpa using hi)
end
theorem Qg3:(Tryz.prog.info? 42).map (fun i=>(i.zero,i.size,i.bytes))=some (some (.slice none 0 0),1,24):=by kernel_rfl
def Sl (v:Value):Prop:=∃a n c,v=.slice a n c
theorem Q08.kept {w w':World} {a:OA} {n c:Nat} {ms:List Q01} (h:Q08 w a n c ms) (row:Option Nat) (hg:w.grownBy w' row) (hs:∀g,row=some g->∀o v,w.cell? ⟨g,o,none⟩=some v->Sl v):Q08 w' a n c ms:=by
 have hk:∀(b o:Nat) (v:Value),b<w.heap.size->w.cell? ⟨b,o,none⟩=some v->¬Sl v->w'.heap[b]?=w.heap[b]?:=fun b o v hb hc hn=>hg.block b hb (fun e=>hn (hs b e.symm o v hc));obtain ⟨h1,h2,h3,h4⟩:=h;refine ⟨h1,h2,h3,?_⟩;rcases h4 with h4|⟨b,o,h5,h6,h7⟩
 ·exact .inl h4
 ·refine .inr ⟨b,o,h5,Uc h6 hg.size,fun j m hm=>?_⟩;obtain ⟨aw,lw,cw,ae,le,ce,q0,q1,q2,q3,hw,hi,hx⟩:=h7 j m hm;have hb:=hk b _ _ h6 q0 (fun ⟨_,_,_,e⟩=>by cases e);have hc:∀o,w'.cell? ⟨b,o,none⟩=w.cell? ⟨b,o,none⟩:=fun o=>UM (a:=⟨b,o,none⟩) hb;refine ⟨aw,lw,cw,ae,le,ce,(hc _).trans q0,(hc _).trans q1,(hc _).trans q2,(hc _).trans q3,⟨hw.len,hw.cap,hw.most,hw.low,?_⟩,⟨hi.len,hi.cap,hi.most,hi.rng,?_⟩,hx⟩
  ·rcases hw.rd with h0|⟨bb,oo,e,E4,X3⟩
   ·exact .inl h0
   ·exact .inr ⟨bb,oo,e,Uc E4 hg.size,fun i x hx=>(UM (a:=⟨bb,oo+i,none⟩) (hk bb _ _ E4 (X3 i x hx) (fun ⟨_,_,_,e⟩=>by cases e))).trans (X3 i x hx)⟩
  ·rcases hi.rd with h0|⟨bb,oo,e,E4,X3⟩
   ·exact .inl h0
   ·exact .inr ⟨bb,oo,e,Uc E4 hg.size,fun i x hx=>(UM (a:=⟨bb,oo+i,none⟩) (hk bb _ _ E4 (X3 i x hx) (fun ⟨_,_,_,e⟩=>by cases e))).trans (X3 i x hx)⟩
theorem Q40.sl {w:World} {B:Nat} {e:TypeId} {k n c:Nat} {a:OA} {xs:LV} (h:Q40 Sl w B e k a n c xs):∀g,a.map (·.block)=some g->∀o v,w.cell? ⟨g,o,none⟩=some v->Sl v:=by
 intro g hg o v hv;rcases h.1.form with ⟨h0,_⟩|⟨g',cur,rfl,_,_,hh,_⟩
 ·rw[h0] at hg;cases hg
 ·simp only[Uz,Uj] at hg;subst hg;rw[Uv _ _ _ _ _ _ hh] at hv;exact h.2 g' cur _ _ rfl hh v (Array.mem_toList_iff.2 (Array.mem_of_getElem? hv))
theorem Q5l.get {w:World} {g:Nat}:∀{l:List (Nat × Ex)} {o i p:Nat} {x:Ex},Q5l w g o l->l[i]?=some (p,x)->w.cell? ⟨g,o+i*2,none⟩=some (.int .i64 (p:Int))/\∃u,w.cell? ⟨g,o+i*2+1,none⟩=some u/\Q2w (fun _=>False) w x u
 |[],_,_,_,_,_,hi=>by simp at hi
 |(p0,x0)::r,o,0,p,x,h,hi=>by
  simp only[UD,Uj,Xas] at hi;obtain ⟨rfl,rfl⟩:=hi;exact ⟨h.1,h.2.1⟩
 |(p0,x0)::r,o,i+1,p,x,h,hi=>by
  have:=Q5l.get (i:=i) h.2.2 (by simpa using hi);rwa[show o+2+i*2=o+(i+1)*2 by omega] at this
def Qxx:Except Nat (List (Nat × Ex))->Except (Nat × Int) (List (List Q0b))
 | .error p=>.error (p,5)
 | .ok l=>Q30 l.length l []
theorem Qk3 (s:LU):Q9o s=Qxx (Q4v s (min (s.count 10) 4) 4 0 []):=by
 unfold Q9o;cases Q4v s (min (s.count 10) 4) 4 0 [] <;> rfl
def Qc9 (w:World) (X:Except (Nat × Int) (List (List Q0b))) (r:Ending) (w':World):Prop:=Bw w w'/\match X with
 | .error (p,e)=>r=.returned (.tuple #[.slice none 0 0,.int .i64 (p:Int),.int .i64 e])
 | .ok F=>∃a n c Fv,r=.returned (.tuple #[.slice a n c,.int .i64 0,.int .i64 0])/\Q1g w' a n c Fv/\Fv.map (List.map Q01.term)=F/\Q2j Fv
theorem Qc9.err {w w':World} {X:Except (Nat × Int) (List (List Q0b))} {p:Nat} {e:Int} (hX:X=.error (p,e)) (hb:Bw w w'):Qc9 w X (.returned (.tuple #[.slice none 0 0,.int .i64 (p:Int),.int .i64 e])) w':=⟨hb,by rw[hX]⟩
def Qa5 (w:World) (X:Except (Nat × Int) (List (List Q0b))) (r:Ending) (w':World):Prop:=Qc9 w X r w'/\∀b o n c p e,r=.returned (.tuple #[.slice (some ⟨b,o,none⟩) n c,p,e])->w.heap.size<=b
theorem Qa5.err {w w':World} {X:Except (Nat × Int) (List (List Q0b))} {p:Nat} {e:Int} (hX:X=.error (p,e)) (hb:Bw w w'):Qa5 w X (.returned (.tuple #[.slice none 0 0,.int .i64 (p:Int),.int .i64 e])) w':=⟨Qc9.err hX hb,fun _ _ _ _ _ _ h=>by simp at h⟩
def Qug (w:World) (k:Nat) (l:List (Nat × Ex)) (s8 s24:Value) (wx:World):Prop:=∃(i:Nat) (a:OA) (c:Nat) (Fv:List (List Q01)) (vs:LV),s8=.slice a i c/\s24=.int .i64 (i:Int)/\i<=l.length/\Fv.length=i/\Q40 Sl wx w.heap.size 42 1 a i c vs/\
 (∀(j:Nat) (ms:List Q01),Fv[j]?=some ms->∃(p:OA) (n d:Nat),vs[j]?=some (Value.slice p n d)/\Q08 wx p n d ms/\Q1o k ms)/\Q30 k l []=Q30 k (l.drop i) (Fv.map (List.map Q01.term))/\Bw w wx
theorem Qug.done {w wx:World} {k i c:Nat} {a:OA} {Fv:List (List Q01)} {vs:LV} (hl:Fv.length=i) (hr:Q40 Sl wx w.heap.size 42 1 a i c vs) (Y1:∀(j:Nat) (ms:List Q01),Fv[j]?=some ms->∃(p:OA) (n d:Nat),vs[j]?=some (Value.slice p n d)/\Q08 wx p n d ms/\Q1o k ms):Q1g wx a i c Fv:=by
 have S3:=hr.1.cap;refine ⟨hl,S3.1,Un S3.2 Qe0,?_⟩;rcases hr.1.form with ⟨_,h0,_⟩|⟨g,cur,rfl,_,E0,_⟩
 ·exact .inl (TP (by omega))
 ·refine .inr ⟨g,0,rfl,E0,fun j ms hm=>?_⟩;obtain ⟨p,n,d,h1,h2,_⟩:=Y1 j ms hm;obtain ⟨g',e,_,_,h3⟩:=hr.1.at_ h1;injection e with e;injection e with e;subst e;exact ⟨p,n,d,by rw[UH];exact h3,h2⟩
theorem Qex (s:ByteArray) (w:World) (hs:s.size<=1000000) (hT:Q1s w):
 Calls Tryz.prog 49 #[.string s] w (Qa5 w (Q9o s.data.toList)):=by
 obtain ⟨i0,E2,P1,G1,K1⟩:=Q0p Qg3;have HI:=Xh4 E2 P1 G1 K1;clear E2 P1 G1 K1;have G3:=Qu7 s w hs hT;obtain ⟨Y,hY⟩:∃Y,Q4v s.data.toList (min (s.data.toList.count 10) 4) 4 0 []=Y:=⟨_,rfl⟩;rw[hY] at G3;obtain ⟨X,hX⟩:∃X,Q9o s.data.toList=X:=⟨_,rfl⟩;rw[hX];have hXY:X=Qxx Y:=by rw[<-hX,Qk3,hY]
 have Jo:∀l,Y=.ok l->1<=l.length/\l.length<=4/\∀z∈l,Q48 l.length z.2:=fun l h=>Qpw (by rw[hY];exact h);have H:=Xh4 G3 hXY Jo hT;clear G3 hXY Jo hT hX hY
 go_enter Tryz.func49,Tryz.ntmps49
 cases Y with
 |error q=>
  have S8:X=.error (q,5):=(Xo1 H);have HX:=Ub S8;clear S8
  go_wp2_with (go_at_call_of 84 (Value.string s);refine (Xo0 H).mono ?_;rintro r w1 ⟨a1,n1,c1,p1,b1,rfl,C0,rfl,rfl⟩;have H1:=Ub C0;clear C0)
  exact ⟨rfl,.tuple #[.slice none 0 0,.int .i64 (q:Int),.int .i64 5],by simp[results,go_sem],Qa5.err HX.out H1.out⟩
 |ok l=>
  obtain ⟨k,hk⟩:∃k,l.length=k:=⟨_,rfl⟩;obtain ⟨X2,Y5,QA⟩:=(Xo2 H) l rfl;have hXl:X=Q30 l.length l []:=(Xo1 H);rw[hk] at X2 Y5 QA hXl;have HX:=Xh3 hXl QA hk;clear hXl QA hk
  go_wp2_with (go_at_call_of 84 (Value.string s);refine (Xo0 H).mono ?_;rintro r w1 ⟨a1,n1,c1,p1,b1,rfl,C0,rfl,g1,rfl,R6,K5,O1,E1,KF⟩;obtain rfl:n1=k:=K5.trans (Xe2 HX);have H1:=Xh5 C0 R6 O1 E1 KF;clear C0 R6 K5 O1 E1 KF)
  rename World=>wl
  go_loopw [8,24] (fun s8 s24 wr=>Qug wl n1 l s8 s24 wr) (fun _ iv _=>n1-(intOf iv).toNat)
  case atStart=>exact ⟨0,none,0,[],[],rfl,rfl,Ut _,rfl,Q40.nil_ _ _ _ _ _,(fun j ms h=>by simp at h),rfl,Ug _ _⟩
  case round=>
   obtain ⟨i,a1,c1,Fv,vs,rfl,rfl,hi,hFl,I0,Y1,Y4,C1⟩:=hrel
   by_cases E0:i<l.length
   ·have N0:=(Xe2 HX);have J0:(i:Int)<(n1:Int):=(by omega);obtain ⟨px,hpx⟩:∃px,l[i]?=some px:=⟨_,Ua E0⟩;obtain ⟨p,x⟩:=px;obtain ⟨q0,u,q1,hu⟩:=(Xe4 H1).get hpx;obtain ⟨t0,u0,rfl⟩:=hu.face;rw[UH] at q0 q1;have q0:=(C1.cell (p:=⟨g1,i*2,none⟩) (Xo1 H1)).trans q0;have q1:=(C1.cell (p:=⟨g1,i*2+1,none⟩) (Xo1 H1)).trans q1;have hgx:Q48 n1 x:=(Xo1 HX) _ (Uf hpx);have E4:Bw wr (wr.alloc (.cells #[.int .i64 (p:Int),.iface t0 u0] 121)):=Ba;have hh:=Um wr (.cells #[.int .i64 (p:Int),.iface t0 u0] 121);have m0:(wr.alloc (.cells #[.int .i64 (p:Int),.iface t0 u0] 121)).cell? ⟨wr.heap.size,0,none⟩=some (.int .i64 (p:Int)):=(by rw[Uv _ _ _ _ _ _ hh];rfl);have m1:(wr.alloc (.cells #[.int .i64 (p:Int),.iface t0 u0] 121)).cell? ⟨wr.heap.size,1,none⟩=some (.iface t0 u0):=(by rw[Uv _ _ _ _ _ _ hh];rfl);have K2:=Below.next0 C1 E4;have O0:=Below.next0 (Xo0 H1) K2;have R5:=Qoh n1 X2 Y5 x hgx _ _ (hu.step' K2) ((Xe3 H).step O0);obtain ⟨Z,hZ⟩:∃Z,Q29 n1 x=Z:=⟨_,rfl⟩;rw[hZ] at R5;have U7:=Q0h wr (.cells #[.int .i64 (p:Int),.iface t0 u0] 121);have heq2:=Y4;rw[Qh8 hpx,Q30,hZ] at heq2;have HR:=Xh11 hFl I0 Y1 heq2 C1 K2 O0 R5 U7 E4 hZ;clear hFl I0 Y1 Y4 heq2 C1 K2 O0 R5 U7 E4 hgx hu hpx hh hZ;cases Z with
    |error er=>
     have ZQ:(er==0)=false:=beq_eq_false_iff_ne.2 (Q5m n1 x er (Xe10 HR));have S8:X=.error (p,er):=(by rw[(Xo0 HX),(Xo3 HR)]);have HX5:=Ub S8;clear S8
     go_wp2_with (go_at_call_of 85 (Value.agg #[.int .i64 (n1:Int)]);refine (Xo7 HR).mono ?_;rintro r w3 ⟨G0,a3,l3,c3,rfl⟩;(have m0:=(G0.cell (p:=⟨wr.heap.size,0,none⟩) (Xo8 HR)).trans m0);have H3:=Ub G0;clear G0)
     go_quiet (fail)
     go_wp2_with fail
     exact ⟨rfl,.tuple #[.slice none 0 0,.int .i64 (p:Int),.int .i64 er],by simp[results,go_sem],Qa5.err HX5.out (Below.drewN' (Below.next0 (Xo6 HR) H3.out) _)⟩
    |ok P=>
     go_upto_region 11 with (go_at_call_of 85 (Value.agg #[.int .i64 (n1:Int)]);refine (Xo7 HR).mono ?_;rintro r w3 ⟨G0,a3,l3,c3,ms3,rfl,QC,Z5,m7⟩;have H3:=Xh4 G0 QC Z5 m7;clear G0 QC Z5 m7)
     obtain ⟨E2,P1,G1,K1⟩:=HI.out;have VC:=Below.next0 (Xo9 HR) (Xo0 H3);have VB:=Below.next0 (Xo5 HR) (Xo0 H3);have Y6:=(Xo1 HR).step VC;have Xb:=VB.alloc VB.size (.cells #[.slice a3 l3 c3] 42);obtain ⟨g6,c6,w6,x4,Y2,Q1,B5⟩:=Q0w (P:=Tryz.prog) Sl (w3.alloc (.cells #[.slice a3 l3 c3] 42)) 22 22 42 i0 _ 1 24 Tryz.underlying22 E2 P1 G1 K1 rfl (by intro u hu;simp[Value.cells] at hu;subst hu;exact ⟨_,_,_,rfl⟩) wl.heap.size Xb.size a1 i c1 vs (Y6.step (Ba)) w3.heap.size 1 1 [.slice a3 l3 c3] rfl (Tx (cs:= #[.slice a3 l3 c3]) (Um _ _)) (by simp[Value.oneCell']) (by intro u hu;simp at hu;subst hu;exact ⟨_,_,_,rfl⟩) (by decide) (by omega) (by decide) (by decide);have HV:=Xh7 VC VB Y6 Xb Y2 Q1 B5;clear VC VB Y6 Xb Y2 Q1 B5 E2 P1 G1 K1
     go_wp2_with (at_builtin;refine Q06 rfl (.tmp 42) (.tmp 44) 22 22 rfl _ _ rfl rfl _ _ x4 ?_)
     obtain ⟨VC,VB,Y6,Xb,Y2,Q1,B5⟩:=HV.out;have QD:=Y6.step ((Ug _ _).alloc (Ue _) (.cells #[.slice a3 l3 c3] 42));have F3:Bw wl w6:=Xb.trans ⟨Q1.os,Q1.tape,Q1.output,Q1.size,fun z hz=>Q1.block z (Uc hz Xb.size) (fun e=>by
      have:=QD.1.row_le z e.symm;omega)⟩
     have ZL:∀{a:OA} {n c:Nat} {ms:List Q01},Q08 w3 a n c ms->Q08 w6 a n c ms:=fun h=>(h.step ((Ug _ _).alloc (Ue _) (.cells #[.slice a3 l3 c3] 42))).kept _ Q1 QD.sl;refine ⟨⟨i+1,_,c6,Fv++[ms3],vs++[.slice a3 l3 c3],rfl,congrArg (Value.int .i64) (by omega),E0,by rw[Uh,(Xo0 HR)];rfl,Y2,fun j ms hj=>?_,?_,F3⟩,by simp only[intOf];omega⟩
     ·have ZE:vs.length=i:=by have:=(Xo1 HR).1.len;omega
      by_cases hji:j<i
      ·rw[Tj (by rw[(Xo0 HR)];exact hji)] at hj;obtain ⟨p',n',d',g1',g2',g3'⟩:=(Xo2 HR) j ms hj;exact ⟨p',n',d',by rw[Tj (by omega)];exact g1',ZL (g2'.step VC),g3'⟩
      ·rw[UY (by rw[(Xo0 HR)];omega),(Xo0 HR)] at hj;have hj0:j-i=0:=by
        have:=(Ul.1 hj).1;simp at this;omega
       rw[hj0] at hj;simp only[UD,Uj] at hj;subst hj;exact ⟨a3,l3,c3,by rw[UY (by omega),ZE,hj0];rfl,ZL (Xo1 H3),(Xe3 H3)⟩
     ·rw[(Xo3 HR),UR,<-(Xo2 H3)];rfl
   ·have N0:=(Xe2 HX);have J0:¬((i:Int)<(n1:Int)):=(by omega);have I7:i=l.length:=(by omega);rw[I7,List.drop_length,Q30] at Y4;have HS:=Xh5 hFl I0 Y1 Y4 C1;have o8:i=n1:=(by omega);have HN:=Ub o8;clear o8;clear hFl I0 Y1 Y4 C1 I7 N0
    go_wp2_with fail
    refine ⟨rfl,.tuple #[.slice a1 i c1,.int .i64 0,.int .i64 0],by simp[results,go_sem],⟨Below.next0 (Xo0 H1) (Xe4 HS),?_⟩,fun b o n c p e h=>?_⟩
    rotate_left
    ·simp only[Ending.returned.injEq,Value.tuple.injEq] at h;have h1:=congrArg (fun z=>z[0]?) h;simp at h1;obtain ⟨rfl,_,_⟩:=h1;have h2:=(Xo0 H1).size;rcases (Xo1 HS).1.form with ⟨h3,_⟩|⟨g,cur,h3,h4,_⟩
     ·cases h3
     ·cases h3;omega
    rw[(Xo0 HX),(Xo3 HS)];refine ⟨a1,i,c1,Fv,rfl,Qug.done (Xo0 HS) (Xo1 HS) (Xo2 HS),rfl,?_⟩;rw[Q2j,(Xo0 HS),HN.out];refine ⟨X2,Y5,fun ms hm=>?_⟩;obtain ⟨j,hj,rfl⟩:=Xa2 hm;obtain ⟨_,_,_,_,_,h⟩:=(Xo2 HS) j _ (Ua hj);exact h
theorem Qev.kept {B n c:Nat} {w w':World} {a:OA} {ms:List Q01} (h:Qev B w a n) (hm:Q08 w a n c ms) (row:Option Nat) (hg:w.grownBy w' row) (hs:∀g,row=some g->∀o v,w.cell? ⟨g,o,none⟩=some v->Sl v):Qev B w' a n:=fun j hj=>by
 obtain ⟨g,be,oe,le,ce,h1,h2,h3,h4⟩:=h j hj;rcases hm.2.2.2 with e|⟨b,o,e,hb,Y1⟩
 ·have:=hm.1;rw[e] at this;simp at this;omega
 ·obtain ⟨_,_,_,_,_,_,q0,_⟩:=Y1 0 _ (Ua (by rw[hm.1];omega));have E8:w'.heap[b]?=w.heap[b]?:=hg.block b hb (fun e'=>by obtain ⟨_,_,_,e2⟩:=hs b e'.symm _ _ q0;cases e2);rw[h1] at e;injection e with e;injection e with e;subst e;exact ⟨g,be,oe,le,ce,h1,h2,(UM (a:=⟨g,_,none⟩) E8).trans h3,h4⟩
theorem Qev.turn {B b n:Nat} {w w':World} {a:OA} (h:Qev B w a n) (VW:b<B) (ht:Q0e (·=b) w w'):Qev B w' a n:=fun j hj=>by
 obtain ⟨g,be,oe,le,ce,h1,h2,h3,h4⟩:=h j hj;exact ⟨g,be,oe,le,ce,h1,h2,(ht.cell (p:=⟨g,_,none⟩) (UA h3) (by show¬g=b;omega)).trans h3,h4⟩
theorem Qev.step {B n:Nat} {w w':World} {a:OA} (h:Qev B w a n) (hb:Bw w w'):Qev B w' a n:=fun j hj=>by
 obtain ⟨g,be,oe,le,ce,h1,h2,h3,h4⟩:=h j hj;exact ⟨g,be,oe,le,ce,h1,h2,(hb.cell (p:=⟨g,_,none⟩) (UA h3)).trans h3,h4⟩
theorem Q08.turnD {B b n c:Nat} {w w':World} {a:OA} {ms:List Q01} (h:Q08 w a n c ms) (hN:Qev B w a n) (VW:b<B) (hnu:∀(o x:Nat),w.cell? ⟨b,o,none⟩≠some (nv .u64 x)) (ht:Q0e (·=b) w w'):Q08 w' a n c ms:=by
 obtain ⟨h1,h2,h3,h4⟩:=h;refine ⟨h1,h2,h3,?_⟩;rcases h4 with h4|⟨b',o,h5,h6,h7⟩
 ·exact .inl h4
 ·refine .inr ⟨b',o,h5,Uc h6 ht.size,fun j m hm=>?_⟩;obtain ⟨aw,lw,cw,ae,le,ce,q0,q1,q2,q3,hw,hi,hx⟩:=h7 j m hm;obtain ⟨g,be,oe,le',ce',e1,hgB,e3,t6⟩:=hN j (by rw[<-h1];exact (Ul.1 hm).1);rw[h5] at e1;simp only[Uj,Addr.mk.injEq] at e1;obtain ⟨rfl,rfl,_⟩:=e1;have q3':=q3;rw[UH,e3] at q3';simp only[Uj,Value.slice.injEq] at q3';obtain ⟨rfl,rfl,rfl⟩:=q3';have hc:∀o,w'.cell? ⟨b',o,none⟩=w.cell? ⟨b',o,none⟩:=fun o=>ht.cell (p:=⟨b',o,none⟩) h6 (by show¬b'=b;omega);have QX:Qvb (·=b) aw m.ws:=by
   rcases hw.rd with e|⟨bb,oo,rfl,hb,X3⟩
   ·exact .inl e
   cases hL:m.ws with
   |nil=>exact .inl rfl
   |cons y r=>
    refine .inr fun x hx e=>?_;injection hx with hx;subst hx;have e:bb=b:=e;subst e;rw[hL] at X3;exact hnu _ _ (X3 0 y rfl)
  refine ⟨aw,lw,cw,_,_,_,(hc _).trans q0,(hc _).trans q1,(hc _).trans q2,(hc _).trans q3,hw.turn QX ht (fun _ h=>h),⟨hi.len,hi.cap,hi.most,hi.rng,?_⟩,hx⟩;rcases hi.rd with h8|⟨b2,oo,e,hb,X3⟩
  ·exact .inl h8
  ·injection e with e;injection e with e4 e5;subst e4;subst e5;exact .inr ⟨be,oe,rfl,Uc hb ht.size,fun i x hx=>(ht.cell (p:=⟨be,oe+i,none⟩) hb (by show¬be=b;omega)).trans (X3 i x hx)⟩
def J13 (w:World) (b i n most:Nat) (s9 s10:Value) (wr:World):Prop:=∃(j q:Nat) (a:OA) (c:Nat) (F:List (List Q01)) (vs:LV),s9=.slice a j c/\s10=.int .i64 (j:Int)/\j<=n/\F.length=j/\Q40 Sl wr w.heap.size 42 1 a j c vs/\
 (∀(t:Nat) (ms:List Q01),F[t]?=some ms->∃p l d,vs[t]?=some (Value.slice p l d)/\Q08 wr p l d ms/\Qev w.heap.size wr p l/\Q1o n ms)/\Q42 wr b q/\q<=i+j*(1+most*10)/\Q0e (·=b) w wr
def Quh (b i n most:Nat) (w:World) (e:Ending) (w':World):Prop:=(∃a c F,e=.returned (.slice a n c)/\Q1g w' a n c F/\Q2j F/\F.length=n/\(∀x,a=some x->w.heap.size<=x.block)/\∃q,Q42 w' b q/\q<=i+n*(1+most*10))/\Q0e (·=b) w w'
theorem Qey (b i n most deg:Nat) (w:World) (h:Q42 w b i) (hi:i<=80000) (h1:1<=n) (hn:n<=4) (hm:most<=30) (hd:deg<=8):
 Calls Tryz.prog 46 #[.pointer (some ⟨b,0,none⟩),.int .i64 (n:Int),.int .i64 (most:Int),.int .i64 (deg:Int)] w (Quh b i n most w):=by
 have U4:=h.lt;obtain ⟨i0,E2,P1,G1,K1⟩:=Q0p Qg3;have HI:=Xh4 E2 P1 G1 K1;have HD:=Ub h;clear h E2 P1 G1 K1
 go_enter Tryz.func46,Tryz.ntmps46
 go_wp2_with fail
 go_loopw [9,10] (fun s9 s10 wr=>J13 w b i n most s9 s10 wr) (fun _ iv _=>n-(intOf iv).toNat)
 case atStart=>exact ⟨0,i,none,0,[],[],rfl,rfl,Ut _,rfl,Q40.nil_ _ _ _ _ _,(fun t ms h=>by simp at h),HD.out,by omega,Q0e.of_below (Ug _ _) _⟩
 case round=>
  obtain ⟨j,q,a1,c1,F,vs,rfl,rfl,hj,hF,I0,Y1,F8,hq,ht⟩:=hrel;have hqb:q<=90000:=by
   have:j*(1+most*10)<=4*301:=Nat.mul_le_mul (by omega) (by omega);omega
  by_cases E0:j<n
  ·have J0:(j:Int)<(n:Int):=(by omega);have S6:=Qju b q n most deg wr F8 hqb h1 hn hm hd;have HR:=Xh6 hF I0 Y1 hq ht F8;clear hF I0 Y1 hq ht F8 hqb
   go_wp2_with (first
    |(go_at_call 81
      refine S6.mono ?_;rintro e w3 ⟨⟨a3,l3,c3,ms3,q3,rfl,QC,WH,Vv,JO,QR⟩,Z5⟩;obtain ⟨E2,P1,G1,K1⟩:=HI.out;have Y6:Q40 Sl w3 w.heap.size 42 1 a1 j c1 vs:=(Xo1 HR).keep fun x hx=>Z5.block _ (Q1r.lt.row2_blk (Xo1 HR).1 hx).2 (by have:=(Q1r.lt.row2_blk (Xo1 HR).1 hx).1;show¬x.block=b;omega);have A2:w.heap.size<=w3.heap.size:=((Xo4 HR).trans0 Z5).size;have O4:Bw w3 (w3.alloc (.cells #[.slice a3 l3 c3] 42)):=Ba;obtain ⟨g6,c6,w6,x4,Y2,Q1,B5⟩:=Q0w (P:=Tryz.prog) Sl (w3.alloc (.cells #[.slice a3 l3 c3] 42)) 22 22 42 i0 _ 1 24 Tryz.underlying22 E2 P1 G1 K1 rfl (by intro u hu;simp[Value.cells] at hu;subst hu;exact ⟨_,_,_,rfl⟩) w.heap.size (Un A2 O4.size) a1 j c1 vs (Y6.step O4) w3.heap.size 1 1 [.slice a3 l3 c3] rfl (Tx (cs:= #[.slice a3 l3 c3]) (Um _ _)) (by simp[Value.oneCell']) (by intro u hu;simp at hu;subst hu;exact ⟨_,_,_,rfl⟩) (by decide) (by omega) (by decide) (by decide);have F3:Below w.heap.size w3 w6:=((Ug w.heap.size w3).alloc A2 (.cells #[.slice a3 l3 c3] 42)).trans ⟨Q1.os,Q1.tape,Q1.output,Q1.size,fun z hz=>Q1.block z (Uc hz (Un A2 O4.size)) (fun e=>by
       have:=Y6.1.row_le z e.symm;omega)⟩
      have H3:=Xh11 QC WH Vv JO QR Z5 Y6 O4 Y2 Q1 F3;clear QC WH Vv JO QR Z5 Y6 O4 Y2 Q1 F3 A2 B5 E2 P1 G1 K1 S6)
    |(at_builtin;refine Q06 rfl (.tmp 16) (.tmp 22) 22 22 rfl _ _ rfl rfl _ _ x4 ?_))
   obtain ⟨QC,WH,Vv,JO,QR,Z5,Y6,O4,Y2,Q1,F3⟩:=H3.out;obtain ⟨hF,I0,Y1,hq,ht,F8⟩:=HR.out;have QP:=(Y6.step O4).sl;have ZL:∀{a:OA} {n c:Nat} {ms:List Q01},Q08 w3 a n c ms->Q08 w6 a n c ms:=fun h=>(h.step O4).kept _ Q1 QP;have VK:∀{a:OA} {n c:Nat} {ms:List Q01},Q08 w3 a n c ms->Qev w.heap.size w3 a n->Qev w.heap.size w6 a n:=fun h hN=>(hN.step O4).kept (h.step O4) _ Q1 QP;have ZE:vs.length=j:=(by have:=I0.1.len;omega);refine ⟨⟨j+1,q3,_,c6,F++[ms3],vs++[.slice a3 l3 c3],rfl,congrArg (Value.int .i64) (by omega),E0,by rw[Uh,hF];rfl,Y2,fun t ms hj=>?_,?_,?_,(ht.trans0 Z5).past F3⟩,by simp only[intOf];omega⟩
   ·by_cases hji:t<j
    ·rw[Tj (by rw[hF];exact hji)] at hj;obtain ⟨p',n',d',g1',g2',g3',g4'⟩:=Y1 t ms hj;exact ⟨p',n',d',by rw[Tj (by omega)];exact g1',ZL (g2'.turnD g3' U4 F8.nou Z5),VK (g2'.turnD g3' U4 F8.nou Z5) (g3'.turn U4 Z5),g4'⟩
    ·rw[UY (by rw[hF];omega),hF] at hj;have hj0:t-j=0:=by
      have:=(Ul.1 hj).1;simp at this;omega
     rw[hj0] at hj;simp only[UD,Uj] at hj;subst hj;exact ⟨a3,l3,c3,by rw[UY (by omega),ZE,hj0];rfl,ZL QC,VK QC (Vv.more ht.size),WH⟩
   ·exact JO.turn (fp:=fun k=>w.heap.size<=k) ⟨F3.os,F3.tape,F3.output,F3.size,fun k _ hn=>F3.block k (TI hn)⟩ fun k hk=>by omega
   ·rw[Tm];omega
  ·have J0:¬(j:Int)<(n:Int):=(by omega);have T9:j=n:=(by omega);have HS:=Xh7 hF I0 Y1 ht T9 F8 hq;clear hF I0 Y1 hq ht F8 T9 hqb
   go_wp2_with fail
   go_ret;obtain ⟨hF,I0,Y1,ht,T9,F8,hq⟩:=HS.out;subst T9;have S3:=I0.1.cap;refine ⟨⟨a1,c1,F,rfl,⟨hF,S3.1,by have:=S3.2;simpa[maxLen] using this,?_⟩,⟨by omega,by omega,fun ms hm=>?_⟩,hF,fun x hx=>(Q1r.lt.row2_blk I0.1 hx).1,q,F8,hq⟩,ht⟩
   ·rcases I0.1.form with ⟨_,h0,_⟩|⟨g,cur,rfl,_,hl,_⟩
    ·omega
    ·refine .inr ⟨g,0,rfl,hl,fun t ms ht=>?_⟩;obtain ⟨p,l,d,hv,hm,_⟩:=Y1 t ms ht;exact ⟨p,l,d,by rw[UH];exact I0.1.cell0 hv,hm⟩
   ·obtain ⟨t,ht,rfl⟩:=Xa2 hm;obtain ⟨_,_,_,_,_,_,h⟩:=Y1 t _ (Ua ht);rw[hF];exact h
theorem Qk4 (m:Q01) (aw:OA) (lw cw:Nat) (ae:OA) (le ce:Nat) (bw:OA) (mw dw:Nat) (be:OA) (me de:Nat) (w:World) (h1:WordsIn w aw lw cw m.ws) (h2:WordsIn w bw mw dw m.ws) (e1:Q0g w ae le ce m.es) (e2:Q0g w be me de m.es) (h0:m.es≠[]):
 Calls Tryz.prog 104 #[.agg #[.bool m.neg,.int .i64 m.exp,.slice aw lw cw,.slice ae le ce],.agg #[.bool m.neg,.int .i64 m.exp,.slice bw mw dw,.slice be me de]] w fun e w'=>e=.returned (.bool true)/\Bw w w':=by
 obtain ⟨W,hW⟩:∃W,(w.alloc (.cells #[.bool m.neg,.int .i64 m.exp,.slice aw lw cw,.slice ae le ce] 98)).alloc (.cells #[.bool m.neg,.int .i64 m.exp,.slice bw mw dw,.slice be me de] 98)=W:=⟨_,rfl⟩;have A3:=Ui w (.cells #[.bool m.neg,.int .i64 m.exp,.slice aw lw cw,.slice ae le ce] 98);have hb:Bw w W:=by rw[<-hW];exact (Ba).alloc (by rw[A3];omega) _
 have hx:=(Q34.new w (.bool m.neg) (.int .i64 m.exp) (.slice aw lw cw) (.slice ae le ce) 98).step ((Ug _ _).alloc (Ue _) (.cells #[.bool m.neg,.int .i64 m.exp,.slice bw mw dw,.slice be me de] 98)) (Q0h _ _);have hy:=Q34.new (w.alloc (.cells #[.bool m.neg,.int .i64 m.exp,.slice aw lw cw,.slice ae le ce] 98)) (.bool m.neg) (.int .i64 m.exp) (.slice bw mw dw) (.slice be me de) 98;rw[hW] at hx hy;rw[A3] at hy;have U7:w.heap.size+1<W.heap.size:=UA hy.c0;obtain ⟨x0,x1,x2⟩:=hx.cc;obtain ⟨y0,y1,y2⟩:=hy.cc;have hns:=Q8q m.neg m.exp aw lw cw m.ws m.neg m.exp bw mw dw m.ws W (h1.step hb) (h2.step hb) (Un h1.cap h1.most);rw[UQ ⟨rfl,rfl,rfl⟩] at hns;obtain ⟨b1,o1,rfl,C0,O1⟩:∃b o,ae=some ⟨b,o,none⟩/\b<w.heap.size/\∀(j:Nat) x,m.es[j]?=some x->w.cell? ⟨b,o+j,none⟩=some (.int .i64 x):=by
  rcases e1.rd with h|h
  ·exact absurd h h0
  ·exact h
 obtain ⟨b2,o2,rfl,D0,E1⟩:∃b o,be=some ⟨b,o,none⟩/\b<w.heap.size/\∀(j:Nat) x,m.es[j]?=some x->w.cell? ⟨b,o+j,none⟩=some (.int .i64 x):=by
  rcases e2.rd with h|h
  ·exact absurd h h0
  ·exact h
 have Y4:∀V,Bw w V->Calls Tryz.prog 105 #[.slice (some ⟨b1,o1,none⟩) le ce,.slice (some ⟨b2,o2,none⟩) me de] V fun e w'=>e=.returned (.bool true)/\∃q,w'=V.drewN q:=fun V hV=>by
  have:=Tryz.J42 b1 o1 le ce b2 o2 me de m.es m.es V (Xbw e1.len.symm) (Xbw e2.len.symm) (Un e1.cap e1.most) (Un e2.cap e2.most) (fun j hj=>(hV.cell (p:=⟨b1,o1+j,none⟩) C0).trans (by rw[US,Ua hj];exact O1 j _ (Ua hj))) (fun j hj=>(hV.cell (p:=⟨b2,o2+j,none⟩) D0).trans (by rw[US,Ua hj];exact E1 j _ (Ua hj)));rw[show (m.es.take le==m.es.take me)=true by rw[<-e1.len,<-e2.len];simp] at this;exact this
 have H:=Xh7 hx hy (e1.step hb) (e2.step hb) Y4 hb U7;clear hx hy e1 e2 h0 hb U7 h1 h2 Y4 O1 E1 C0 D0
 go_enter Tryz.func104,Tryz.ntmps104
 go_wp2_with (first
  |(go_at_call 105
    refine Y4.mono ?_;rintro r w4 ⟨rfl,q,rfl⟩)
  |(go_at_call 30
    refine hns.mono ?_;rintro r w3 ⟨rfl,G0⟩;have hl:=(Xe6 H);have x3:=((Xo0 H).step G0 (by omega)).c3;have y3:=((Xo1 H).step G0 (by omega)).c3;have Y4:=(Xo4 H) w3 (Below.next0 (Xo5 H) G0);have H3:=Ub G0;clear G0 hns hl))
 go_ret
 first
  |exact ⟨rfl,Q1d (Below.next0 (Xo5 H) H3.out) _⟩
  |exact ⟨rfl,.bool true,by simp[results,go_sem],rfl,Q1d (Below.next0 (Xo5 H) H3.out) _⟩
theorem Qha (a b:OA) (n c d:Nat) (ms:List Q01) (w:World) (h1:Q08 w a n c ms) (h2:Q08 w b n d ms) (h0:∀m∈ms,m.es≠[]):
 Calls Tryz.prog 103 #[.slice a n c,.slice b n d,.func (.func 104) #[] #[]] w fun e w'=>e=.returned (.bool true)/\Bw w w':=by
 have G3:=h1.1;have J3:=Un h1.2.1 h1.2.2.1;have H:=Xh3 h1 h2 h0;clear h1 h2 h0
 go_enter Tryz.func103,Tryz.ntmps103
 go_wp2_with fail
 go_loopw [17] (fun s17 wr=>∃i:Nat,s17=.int .i64 (i:Int)/\i<=n/\Bw w wr) (fun iv _=>n-(intOf iv).toNat)
 case atStart=>exact ⟨0,rfl,Ut _,Ug _ _⟩
 case round=>
  obtain ⟨i,rfl,hi,C1⟩:=hrel
  by_cases E0:i<n
  ·have J0:(i:Int)<(n:Int):=(by omega);obtain ⟨x,hx⟩:∃x,ms[i]?=some x:=⟨_,Ua (by omega)⟩;obtain ⟨b1,o1,rfl,C0,ZF⟩:∃b o,a=some ⟨b,o,none⟩/\b<w.heap.size/\∀j m,ms[j]?=some m->Q4n w b (o+j*4) m:=by
    rcases (Xo0 H).2.2.2 with h0|h0
    ·rw[h0] at hx;simp at hx
    ·exact h0
   obtain ⟨b2,o2,rfl,D0,Jz⟩:∃b' o,b=some ⟨b',o,none⟩/\b'<w.heap.size/\∀j m,ms[j]?=some m->Q4n w b' (o+j*4) m:=by
    rcases (Xo1 H).2.2.2 with h0|h0
    ·rw[h0] at hx;simp at hx
    ·exact h0
   obtain ⟨aw,lw,cw,ae,le,ce,k0,k1,k2,k3,hw,he,_,_⟩:=ZF i x hx;obtain ⟨bw,mw,dw,be,me,de,l0,l1,l2,l3,D6,Q6,_,_⟩:=Jz i x hx;have k0:=(C1.cell (p:=⟨b1,o1+i*4,none⟩) C0).trans k0;have k1:=(C1.cell (p:=⟨b1,o1+i*4+1,none⟩) C0).trans k1;have k2:=(C1.cell (p:=⟨b1,o1+i*4+2,none⟩) C0).trans k2;have k3:=(C1.cell (p:=⟨b1,o1+i*4+3,none⟩) C0).trans k3;obtain ⟨W1,O2⟩:∃W1,wr.alloc (.cells #[.bool x.neg,.int .i64 x.exp,.slice aw lw cw,.slice ae le ce] 98)=W1:=⟨_,rfl⟩;have A3:W1.heap.size=wr.heap.size+1:=(by rw[<-O2];exact Ui _ _);have VJ:Bw wr W1:=(by rw[<-O2];exact Ba);have R4:=Q34.new wr (.bool x.neg) (.int .i64 x.exp) (.slice aw lw cw) (.slice ae le ce) 98;rw[O2] at R4;have XT:=Below.next0 C1 VJ;have l0:=(XT.cell (p:=⟨b2,o2+i*4,none⟩) D0).trans l0;have l1:=(XT.cell (p:=⟨b2,o2+i*4+1,none⟩) D0).trans l1;have l2:=(XT.cell (p:=⟨b2,o2+i*4+2,none⟩) D0).trans l2;have l3:=(XT.cell (p:=⟨b2,o2+i*4+3,none⟩) D0).trans l3;obtain ⟨W2,I4⟩:∃W2,W1.alloc (.cells #[.bool x.neg,.int .i64 x.exp,.slice bw mw dw,.slice be me de] 98)=W2:=⟨_,rfl⟩;have JD:Bw W1 W2:=(by rw[<-I4];exact Ba);have Z3:=Q34.new W1 (.bool x.neg) (.int .i64 x.exp) (.slice bw mw dw) (.slice be me de) 98;rw[I4] at Z3;have R4:=R4.step JD (by omega);rw[A3] at Z3;have XU:=Below.next0 XT JD;obtain ⟨p0,p1,p2⟩:=R4.cc;have p3:=R4.c3;obtain ⟨r0,r1,r2⟩:=Z3.cc;have r3:=Z3.c3;have u7:=Qk4 x aw lw cw ae le ce bw mw dw be me de W2 (hw.step XU) (D6.step XU) (he.step XU) (Q6.step XU) ((Xe2 H) x (Uf hx));have HS:=Ub XU;clear C1 VJ XT JD XU ZF Jz hw he D6 Q6 R4 Z3 hx
   go_wp2_with (go_at_call 104;refine u7.mono ?_;rintro r w3 ⟨rfl,G0⟩;have H3:=Ub G0;clear G0)
   exact ⟨⟨i+1,congrArg (Value.int .i64) (by omega),by omega,Below.next0 HS.out H3.out⟩,by simp only[intOf];omega⟩
  ·have J0:¬(i:Int)<(n:Int):=(by omega);have HS:=Ub C1;clear C1
   go_wp2_with fail
   go_ret;exact ⟨rfl,HS.out⟩
theorem Qk5 (a b:OA) (n c d:Nat) (ms:List Q01) (w:World) (h1:Q08 w a n c ms) (h2:Q08 w b n d ms) (h0:∀m∈ms,m.es≠[]):
 Calls Tryz.prog 60 #[.slice a n c,.slice b n d] w fun e w'=>e=.returned (.bool true)/\Bw w w':=by
 have hc:=Qha a b n c d ms w h1 h2 h0;clear h1 h2 h0
 go_enter Tryz.func60,Tryz.ntmps60
 go_wp2_with (refine hc.mono ?_;rintro r w3 ⟨rfl,G0⟩)
 go_ret;exact ⟨rfl,G0⟩
theorem Qhb (a b:OA) (n c d:Nat) (F:List (List Q01)) (w:World) (h1:Q1g w a n c F) (h2:Q1g w b n d F) (h0:∀ms∈F,∀m∈ms,m.es≠[]):
 Calls Tryz.prog 28 #[.slice a n c,.slice b n d] w fun e w'=>e=.returned (.bool true)/\Bw w w':=by
 have G3:=h1.1;have J3:=Un h1.2.1 h1.2.2.1;have H:=Xh3 h1 h2 h0;clear h1 h2 h0
 go_enter Tryz.func28,Tryz.ntmps28
 go_wp2_with fail
 go_loopw [13] (fun s13 wr=>∃i:Nat,s13=.int .i64 (i:Int)/\i<=n/\Bw w wr) (fun iv _=>n-(intOf iv).toNat)
 case atStart=>exact ⟨0,rfl,Ut _,Ug _ _⟩
 case round=>
  obtain ⟨i,rfl,hi,C1⟩:=hrel
  by_cases E0:i<n
  ·have J0:(i:Int)<(n:Int):=(by omega);obtain ⟨ms,hx⟩:∃ms,F[i]?=some ms:=⟨_,Ua (by omega)⟩;obtain ⟨b1,o1,rfl,C0,ZF⟩:∃b o,a=some ⟨b,o,none⟩/\b<w.heap.size/\∀j ms,F[j]?=some ms->∃p l d,w.cell? ⟨b,o+j,none⟩=some (.slice p l d)/\Q08 w p l d ms:=by
    rcases (Xo0 H).2.2.2 with h0|h0
    ·rw[h0] at hx;simp at hx
    ·exact h0
   obtain ⟨b2,o2,rfl,D0,Jz⟩:∃b' o,b=some ⟨b',o,none⟩/\b'<w.heap.size/\∀j ms,F[j]?=some ms->∃p l d,w.cell? ⟨b',o+j,none⟩=some (.slice p l d)/\Q08 w p l d ms:=by
    rcases (Xo1 H).2.2.2 with h0|h0
    ·rw[h0] at hx;simp at hx
    ·exact h0
   obtain ⟨p,l,dd,k0,KB⟩:=ZF i ms hx;obtain ⟨p2,l2,d2,k1,XW⟩:=Jz i ms hx;obtain rfl:l2=l:=(by rw[<-KB.1,<-XW.1]);have hC:∀W,Bw wr W->W.cell? ⟨b1,o1+i,none⟩=some (.slice p l2 dd)/\W.cell? ⟨b2,o2+i,none⟩=some (.slice p2 l2 d2)/\Calls Tryz.prog 60 #[.slice p l2 dd,.slice p2 l2 d2] W fun e w'=>e=.returned (.bool true)/\Bw W w':=fun W hW=>by
    have hB:=Below.next0 C1 hW;exact ⟨(hB.cell (p:=⟨b1,o1+i,none⟩) C0).trans k0,(hB.cell (p:=⟨b2,o2+i,none⟩) D0).trans k1,Qk5 p p2 l2 dd d2 ms W (KB.step hB) (XW.step hB) ((Xe2 H) ms (Uf hx))⟩
   have HC:=Ub hC;have HS:=Ub C1;clear hC C1 ZF Jz k0 k1 KB XW hx
   go_upto_region 6 with fail
   refine Q0l (E:=Qeo) (fun _=>Ug _ _) (by kernel_rfl) (fun W=>Bw wr W) (fun _ _ h h'=>Below.next0 h h') (Q56 [.slice (some ⟨b1,o1,none⟩) n c,.int .i64 (i:Int),.pointer (some ⟨b1,o1+i,none⟩),.slice p l2 dd,.slice (some ⟨b2,o2,none⟩) n d,.int .i64 (i:Int),.pointer (some ⟨b2,o2+i,none⟩),.slice p2 l2 d2,.bool true,.bool false] (Q2s [])) (Q0j (Q12 ((fun p hp=>by cases hp)))) (Q3l (by kernel_rfl)) (by kernel_rfl) (Q04 wr) ?_ ?_
   ·skip
    repeat' (first|exact Qet|refine Qes ?_ ?_)
    all_goals
     refine Q3i rfl fun A W hW F0 hd hd=>?_;simp[Qbq,Region.binds,Q2s] at hd;have e0:=Q0d F0 0 (by kernel_rfl) rfl;have e5:=Q0d F0 5 (by kernel_rfl) rfl;have e1:=Q0d F0 1 (by kernel_rfl) rfl
     first
     |(refine Q1m rfl rfl ?_;simp[go_sem,hd,e0,e5,e1,J0,(HC.out W hW).1,(HC.out W hW).2.1];done)
     |(refine Q8x rfl rfl ?_ ((HC.out W hW).2.2);simp[go_sem,hd];done)
   intro vs W1 O2 D5;have HB:=Ub O2;have e9:vs 9=.bool false:=(Q0f rfl).1 (D5 9 (by decide));simp only[Q0y,Act.put,Uu,UI,UF,e9];clear O2 D5 e9
   go_wp2_with fail
   exact ⟨⟨i+1,congrArg (Value.int .i64) (by omega),by omega,Below.next0 HS.out HB.out⟩,by simp only[intOf];omega⟩
  ·have J0:¬(i:Int)<(n:Int):=(by omega);have HS:=Ub C1;clear C1
   go_wp2_with fail
   go_ret;exact ⟨rfl,HS.out⟩
end Go.Proofs.YtidojbkhlenahaaGreatDoor
