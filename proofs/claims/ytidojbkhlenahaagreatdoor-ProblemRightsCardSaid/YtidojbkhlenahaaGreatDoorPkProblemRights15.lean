/- Part 15. No condition. -/
import Derived.Lib.Walk
import Derived.Lib.AppendIntMem
import Derived.BigCall
import Derived.BigGuard
import Derived.WalkSmall
import Derived.Lib.Builder
import Derived.Lib.AppendStr
import Derived.Lib.UnsafeStr
import Derived.Laws.Externs
import Derived.Test.YtidojbkhlenahaaGreatDoorPkProblemRights14
set_option maxRecDepth 100000
set_option maxHeartbeats 16000000
namespace Go.Proofs.YtidojbkhlenahaaGreatDoor
open Go.RowKit WordsM
def Qz7 [LT ZK] (w:World) (k:Nat) (l:List (Bool × Ex)) (s6 s14:Value) (wx:World):Prop:=∃(i:Nat) (acc:Option (List Q0l)) (a:OA) (n c:Nat) (ms:List Q00),s6=.slice a n c/\s14=.int .i64 (i:Int)/\i<=l.length/\(acc=none↔i=0)/\Q0e wx a n c ms/\ms.map Q00.term=acc.getD []/\(acc≠none->Q1p k ms)/\
 Q4t k none l=Q4t k acc (l.drop i)/\Bw w wx
def Qz8 [LT ZK] (w:World) (k:Nat) (p:List Q0l) (v:Value):Prop:=∃a n c ms,v=.slice a n c/\Q0e w a n c ms/\ms.map Q00.term=p/\Q1p k ms
def Qz9 (k:Nat) (r:List (Bool × Ex)):Except Int (List Q0l)->Except Int (List Q0l)
 | .error e=>.error e
 | .ok q=>Q4t k (some q) r
theorem Qpa {k:Nat} {q p:List Q0l} {t:Bool} {x:Ex} {r:List (Bool × Ex)} (h:Q2b k x=.ok p):Q4t k (some q) ((t,x)::r)=Qz9 k r (Qui q (if t=true then Q96 p else p)):=by
 rw[Q4t,h]
 show (match Qui q (if t=true then Q96 p else p) with| .error e=>(.error e:Except Int (List Q0l))| .ok q'=>Q4t k (some q') r)=_
 cases Qui q (if t=true then Q96 p else p) <;> rfl
theorem Qgv {α:Type} {l:List α} {i:Nat} {x:α} (h:l[i]?=some x):l.drop i=x::l.drop (i+1):=by
 obtain ⟨E0,rfl⟩:=Ui.1 h;exact UB E0
theorem Qja [LT ZK] (k:Nat) (l:List (Bool × Ex)) (a b c d:Nat) (w:World) (hm:∀(i:Nat) (t:Bool) (x:Ex),l[i]?=some (t,x)->Q8s k x) (P0:l≠[]) (ha:a<w.heap.size) (hb:b<w.heap.size) (hl:l.length<=9223372036854775807) (hx:Qbe (fun _=>False) w a b 0 l) (hT:Q1s w):
 Calls Tryz.prog 134 #[.agg #[.int .i64 (k:Int)],.agg #[.slice (some ⟨a,0,none⟩) l.length c,.slice (some ⟨b,0,none⟩) l.length d]] w (Q1i w k (Q4t k none l)):=by
 obtain ⟨X,hX⟩:∃X,Q4t k none l=X:=⟨_,rfl⟩;rw[hX];obtain ⟨n,hn⟩:∃n,l.length=n:=⟨_,rfl⟩;rw[hn] at hl⊢;obtain ⟨W0,E1⟩:∃W0,(w.alloc (.cells #[.int .i64 (k:Int)] 124)).alloc (.cells #[.slice (some ⟨a,0,none⟩) n c,.slice (some ⟨b,0,none⟩) n d] 178)=W0:=⟨_,rfl⟩;have D2:(w.alloc (.cells #[.int .i64 (k:Int)] 124)).heap.size=w.heap.size+1:=Uk _ _;have A0:Bw w (w.alloc (.cells #[.int .i64 (k:Int)] 124)):=Ba;have D0:Bw w W0:=by rw[<-E1];exact A0.alloc (by rw[D2];omega) _
 have Q5:W0.heap.size=w.heap.size+2:=by rw[<-E1,Uk,D2]
 have k0:W0.cell? ⟨w.heap.size,0,none⟩=some (.int .i64 (k:Int)):=by
  rw[<-E1,Tb _ _ _ (by rw[D2];exact TU _),Uw _ _ _ _ _ _ (Uo _ _)];rfl
 have hh:W0.heap[w.heap.size+1]?=some (.cells #[.slice (some ⟨a,0,none⟩) n c,.slice (some ⟨b,0,none⟩) n d] 178 (0,0)):=by
  rw[<-E1,<-D2];exact Uo _ _
 have k1:W0.cell? ⟨w.heap.size+1,0,none⟩=some (.slice (some ⟨a,0,none⟩) n c):=by rw[Uw _ _ _ _ _ _ hh];rfl
 have k2:W0.cell? ⟨w.heap.size+1,1,none⟩=some (.slice (some ⟨b,0,none⟩) n d):=by rw[Uw _ _ _ _ _ _ hh];rfl
 have H:=Xh13 hm P0 ha hb hx hT hX hn D0 Q5 k0 k1 k2;clear hm P0 ha hb hx hT hX hn D0 Q5 A0 D2 hh
 go_enter Tryz.func134,Tryz.ntmps134
 go_wp2_with fail
 clear E1
 go_loopw [6,14] (fun s6 s14 wr=>Qz7 W0 k l s6 s14 wr) (fun _ iv _=>n-(intOf iv).toNat)
 case atStart=>exact ⟨0,none,none,0,0,[],rfl,rfl,Ut _,by simp,⟨rfl,Uf _,by decide,.inl rfl⟩,rfl,(fun h=>absurd rfl h),rfl,Uc _ _⟩
 case round=>
  obtain ⟨i,acc,a1,n1,c1,ms,rfl,rfl,hi,Q6,Jm,Z1,F3,G4,M0⟩:=hrel;have K0:=(Xo7 H)
  by_cases E0:i<l.length
  ·have F0:(i:Int)<(n:Int):=(by omega);obtain ⟨tx,K6⟩:∃tx,l[i]?=some tx:=⟨_,Ub E0⟩;obtain ⟨t,x⟩:=tx;obtain ⟨⟨u,q0,hu⟩,q1⟩:=Qbe.get (Xo4 H) K6;have A9:=Below.next0 (Xo8 H) M0;obtain ⟨t0,u0,rfl⟩:=hu.face;rw[UV] at q0 q1;have q0:=(A9.cell (p:=⟨a,i,none⟩) (Xo2 H)).trans q0;have q1:=(A9.cell (p:=⟨b,i,none⟩) (Xo3 H)).trans q1;have r0:=(M0.cell (p:=⟨w.heap.size,0,none⟩) (by rw[(Xo9 H)];show w.heap.size<_;omega)).trans k0;have r1:=(M0.cell (p:=⟨w.heap.size+1,0,none⟩) (by rw[(Xo9 H)];show w.heap.size+1<_;omega)).trans k1;have r2:=(M0.cell (p:=⟨w.heap.size+1,1,none⟩) (by rw[(Xo9 H)];show w.heap.size+1<_;omega)).trans k2;have G5:=(Xo0 H) i t x K6 _ wr (hu.step' A9) ((Xo5 H).step A9);obtain ⟨Y,hY⟩:∃Y,Q2b k x=Y:=⟨_,rfl⟩;rw[hY] at G5;have Qy:=Qgv K6;rw[Qy] at G4;have HR:=Xh9 Q6 Jm Z1 F3 G4 M0 G5 hY A9;clear Q6 Jm Z1 F3 G4 M0 G5 hY Qy K6 hu A9;cases Y with
   |error er=>
    have Jj:(er==0)=false:=beq_eq_false_iff_ne.2 (Q5k k x er (Xo7 HR));have hX:X=.error er:=by
     rw[<-(Xo6 H),(Xo4 HR),Q4t,(Xo7 HR)]
    have HX:=Ua hX;clear hX
    go_wp2_with (go_at_call_of 85 (Value.agg #[.int .i64 (k:Int)]);refine (Xo6 HR).mono ?_;rintro r w3 ⟨I0,a3,l3,c3,rfl⟩;have H3:=Ua I0;clear I0)
    exact ⟨rfl,.tuple #[.slice none 0 0,.int .i64 er],by simp[results,go_sem],Q1i.err HX.out (Below.next0 (Xe8 HR) H3.out)⟩
   |ok p=>
    have HZ:=Ua r0
    go_upto_if 32 with (go_at_call_of 85 (Value.agg #[.int .i64 (k:Int)]);refine (Xo6 HR).mono ?_;rintro r w3 ⟨I0,a3,l3,c3,ms3,rfl,Qs,Y8,M7⟩;(have r1:=(I0.cell (p:=⟨w.heap.size+1,1,none⟩) (UI r2)).trans r2);(have q1:=(I0.cell (p:=⟨b,i,none⟩) (UI q1)).trans q1);(have r0:=(I0.cell (p:=⟨w.heap.size,0,none⟩) (UI r0)).trans r0);have H3:=Xh4 I0 Qs Y8 M7;clear I0 Qs Y8 M7)
    obtain ⟨p',Zy⟩:∃p',(if t=true then Q96 p else p)=p':=⟨_,rfl⟩;have HP:=Ua Zy;clear Zy
    go_cut [9] (fun s9 wx=>Qz8 wx k p' s9/\Bw wr wx)
    case first=>
     cases t with
     |false=>
      go_wp2_with fail
      go_meet;refine ⟨⟨a3,l3,c3,ms3,rfl,(Xo1 H3),?_,(Xe3 H3)⟩,(Xo0 H3)⟩;rw[<-HP.out];exact (Xo2 H3)
     |true=>
      have htu:=Qp8 a3 l3 c3 ms3 k w3 (Xo1 H3) (Xe3 H3);have HT:=Ua htu;clear htu
      go_wp2_with (go_at_call_of 190 (Value.slice a3 l3 c3);refine HT.out.mono ?_;rintro r w4 ⟨a4,c4,rfl,hm4,N1⟩;have H4:=Xh2 hm4 N1;clear hm4 N1)
      go_meet;refine ⟨⟨a4,l3,c4,_,rfl,(Xo0 H4),?_,Qfi (Xe3 H3)⟩,Below.next0 (Xo0 H3) (Xe1 H4)⟩;rw[<-HP.out,Qp7,(Xo2 H3)];rfl
    case rest=>
     obtain ⟨⟨a5,l5,c5,ms5,rfl,hm5,Vu,ZX⟩,C1⟩:=hcut;have r0:=(C1.cell (p:=⟨w.heap.size,0,none⟩) (UI HZ.out)).trans HZ.out;have H5:=Xh4 hm5 Vu ZX C1;clear hm5 Vu ZX C1
     by_cases O2:i=0
     ·have hi1:¬((0:Int)<(i:Int)):=(by omega);have hac:=(Xo0 HR).2 O2;have HA:=Ua hac;clear hac O2
      go_wp2_with fail
      refine ⟨⟨i+1,some p',a5,l5,c5,ms5,rfl,congrArg (Value.int .i64) (by omega),E0,by simp,(Xo0 H5),(Xo1 H5),fun _=>(Xo2 H5),?_,Below.next0 (Xo5 HR) (Xe3 H5)⟩,by simp only[intOf];omega⟩;rw[(Xo4 HR),Q4t,(Xo7 HR),HA.out]
      show Q4t k (some (if t=true then Q96 p else p)) _=_
      rw[HP.out]
     ·have hi1:(0:Int)<(i:Int):=(by omega);obtain ⟨q,hq⟩:∃q,acc=some q:=Option.ne_none_iff_exists'.1 (fun e=>O2 ((Xo0 HR).1 e));have hmq:ms.map Q00.term=q:=(by rw[(Xo2 HR),hq];rfl);have Xh:=(Xo3 HR) (by rw[hq];simp);have V6:=Qlj a1 n1 c1 ms a5 l5 c5 ms5 k wc ((Xo1 HR).step (Xe3 H5)) (Xo0 H5) Xh (Xo2 H5) ((Xo5 H).step (Below.next0 (Xe8 HR) (Xe3 H5)));rw[hmq,(Xo1 H5)] at V6;obtain ⟨Z,hZ⟩:∃Z,Qui q p'=Z:=⟨_,rfl⟩;rw[hZ] at V6;have G4:Q4t k none l=Qz9 k (l.drop (i+1)) Z:=by
       rw[(Xo4 HR),hq,Qpa (Xo7 HR),HP.out,hZ]
      have HA:=Xh3 V6 G4 hZ;clear V6 G4 hq hmq Xh O2;clear hZ;cases Z with
      |error er=>
       have Jj:(er==0)=false:=beq_eq_false_iff_ne.2 (Q7v (Xe2 HA));have hX:X=.error er:=(by rw[<-(Xo6 H),(Xo1 HA)];rfl);have HX:=Ua hX;clear hX
       go_wp2_with (go_at_call_of 191 (Value.slice a1 n1 c1);refine (Xo0 HA).mono ?_;rintro r w6 ⟨F4,a6,l6,c6,rfl⟩;have H6:=Ua F4;clear F4)
       exact ⟨rfl,.tuple #[.slice none 0 0,.int .i64 er],by simp[results,go_sem],Q1i.err HX.out (Below.next0 (Below.next0 (Xe8 HR) (Xe3 H5)) H6.out)⟩
      |ok q'=>
       go_wp2_with (go_at_call_of 191 (Value.slice a1 n1 c1);refine (Xo0 HA).mono ?_;rintro r w6 ⟨F4,a6,l6,c6,ms6,rfl,WG,Wb,ZB⟩;have H6:=Xh4 F4 WG Wb ZB;clear F4 WG Wb ZB)
       exact ⟨⟨i+1,some q',a6,l6,c6,ms6,rfl,congrArg (Value.int .i64) (by omega),E0,by simp,(Xo1 H6),(Xo2 H6),fun _=>(Xe3 H6),(Xo1 HA),Below.next0 (Below.next0 (Xo5 HR) (Xe3 H5)) (Xo0 H6)⟩,by simp only[intOf];omega⟩
  ·have F0:¬((i:Int)<(n:Int)):=(by omega);have U5:i=l.length:=(by omega);have P0:acc≠none:=fun e=>by
    have:=Q6.1 e;have:=Xbc.2 (Xo1 H);omega
   rw[U5,List.drop_length,Q4t] at G4;have HS:=Xh5 Jm Z1 (F3 P0) G4 M0;clear Jm Z1 F3 G4 M0 Q6 U5 P0 K0
   go_wp2_with fail
   refine ⟨rfl,.tuple #[.slice a1 n1 c1,.int .i64 0],by simp[results,go_sem],Below.next0 (Xo8 H) (Xe4 HS),?_⟩;rw[<-(Xo6 H),(Xo3 HS)];exact ⟨a1,n1,c1,ms,rfl,(Xo0 HS),(Xo1 HS),(Xo2 HS)⟩
def Qza [LT ZK] (w:World) (k:Nat) (l:List Ex) (s6 s14:Value) (wx:World):Prop:=∃(i:Nat) (acc:Option (List Q0l)) (a:OA) (n c:Nat) (ms:List Q00),s6=.slice a n c/\s14=.int .i64 (i:Int)/\i<=l.length/\(acc=none↔i=0)/\Q0e wx a n c ms/\ms.map Q00.term=acc.getD []/\(acc≠none->Q1p k ms)/\
 Q4l k none l=Q4l k acc (l.drop i)/\Bw w wx
def Qzb (k:Nat) (r:List Ex):Except Int (List Q0l)->Except Int (List Q0l)
 | .error e=>.error e
 | .ok q=>Q4l k (some q) r
theorem Qpb {k:Nat} {q p:List Q0l} {x:Ex} {r:List Ex} (h:Q2b k x=.ok p):Q4l k (some q) (x::r)=Qzb k r (Qhq q p):=by
 rw[Q4l,h]
 show (match Qhq q p with| .error e=>(.error e:Except Int (List Q0l))| .ok q'=>Q4l k (some q') r)=_
 cases Qhq q p <;> rfl
theorem Qjb [LT ZK] (k:Nat) (l:List Ex) (a c:Nat) (w:World) (hm:∀(i:Nat) (x:Ex),l[i]?=some x->Q8s k x) (P0:l≠[]) (ha:a<w.heap.size) (hl:l.length<=9223372036854775807) (hx:Qag (fun _=>False) w a 0 l) (hT:Q1s w):
 Calls Tryz.prog 135 #[.agg #[.int .i64 (k:Int)],.agg #[.slice (some ⟨a,0,none⟩) l.length c]] w (Q1i w k (Q4l k none l)):=by
 obtain ⟨X,hX⟩:∃X,Q4l k none l=X:=⟨_,rfl⟩;rw[hX];obtain ⟨n,hn⟩:∃n,l.length=n:=⟨_,rfl⟩;rw[hn] at hl⊢;obtain ⟨W0,E1⟩:∃W0,(w.alloc (.cells #[.int .i64 (k:Int)] 124)).alloc (.cells #[.slice (some ⟨a,0,none⟩) n c] 181)=W0:=⟨_,rfl⟩;have D2:(w.alloc (.cells #[.int .i64 (k:Int)] 124)).heap.size=w.heap.size+1:=Uk _ _;have A0:Bw w (w.alloc (.cells #[.int .i64 (k:Int)] 124)):=Ba;have D0:Bw w W0:=by rw[<-E1];exact A0.alloc (by rw[D2];omega) _
 have Q5:W0.heap.size=w.heap.size+2:=by rw[<-E1,Uk,D2]
 have k0:W0.cell? ⟨w.heap.size,0,none⟩=some (.int .i64 (k:Int)):=by
  rw[<-E1,Tb _ _ _ (by rw[D2];exact TU _),Uw _ _ _ _ _ _ (Uo _ _)];rfl
 have hh:W0.heap[w.heap.size+1]?=some (.cells #[.slice (some ⟨a,0,none⟩) n c] 181 (0,0)):=by
  rw[<-E1,<-D2];exact Uo _ _
 have k1:W0.cell? ⟨w.heap.size+1,0,none⟩=some (.slice (some ⟨a,0,none⟩) n c):=by rw[Uw _ _ _ _ _ _ hh];rfl
 have H:=Xh11 hm P0 ha hx hT hX hn D0 Q5 k0 k1;clear hm P0 ha hx hT hX hn D0 Q5 A0 D2 hh
 go_enter Tryz.func135,Tryz.ntmps135
 go_wp2_with fail
 clear E1
 go_loopw [6,14] (fun s6 s14 wr=>Qza W0 k l s6 s14 wr) (fun _ iv _=>n-(intOf iv).toNat)
 case atStart=>exact ⟨0,none,none,0,0,[],rfl,rfl,Ut _,by simp,⟨rfl,Uf _,by decide,.inl rfl⟩,rfl,(fun h=>absurd rfl h),rfl,Uc _ _⟩
 case round=>
  obtain ⟨i,acc,a1,n1,c1,ms,rfl,rfl,hi,Q6,Jm,Z1,F3,G4,M0⟩:=hrel;have K0:=(Xo6 H)
  by_cases E0:i<l.length
  ·have F0:(i:Int)<(n:Int):=(by omega);obtain ⟨x,K6⟩:∃x,l[i]?=some x:=⟨_,Ub E0⟩;obtain ⟨u,q0,hu⟩:=Qag.get (Xo3 H) K6;have A9:=Below.next0 (Xo7 H) M0;obtain ⟨t0,u0,rfl⟩:=hu.face;rw[UV] at q0;have q0:=(A9.cell (p:=⟨a,i,none⟩) (Xo2 H)).trans q0;have r0:=(M0.cell (p:=⟨w.heap.size,0,none⟩) (by rw[(Xo8 H)];show w.heap.size<_;omega)).trans k0;have r1:=(M0.cell (p:=⟨w.heap.size+1,0,none⟩) (by rw[(Xo8 H)];show w.heap.size+1<_;omega)).trans k1;have G5:=(Xo0 H) i x K6 _ wr (hu.step' A9) ((Xo4 H).step A9);obtain ⟨Y,hY⟩:∃Y,Q2b k x=Y:=⟨_,rfl⟩;rw[hY] at G5;have Qy:=Qgv K6;rw[Qy] at G4;have HR:=Xh9 Q6 Jm Z1 F3 G4 M0 G5 hY A9;clear Q6 Jm Z1 F3 G4 M0 G5 hY Qy K6 hu A9;cases Y with
   |error er=>
    have Jj:(er==0)=false:=beq_eq_false_iff_ne.2 (Q5k k x er (Xo7 HR));have hX:X=.error er:=by
     rw[<-(Xo5 H),(Xo4 HR),Q4l,(Xo7 HR)]
    have HX:=Ua hX;clear hX
    go_wp2_with (go_at_call_of 85 (Value.agg #[.int .i64 (k:Int)]);refine (Xo6 HR).mono ?_;rintro r w3 ⟨I0,a3,l3,c3,rfl⟩;have H3:=Ua I0;clear I0)
    exact ⟨rfl,.tuple #[.slice none 0 0,.int .i64 er],by simp[results,go_sem],Q1i.err HX.out (Below.next0 (Xe8 HR) H3.out)⟩
   |ok p=>
    by_cases O2:i=0
    ·have hi1:¬((0:Int)<(i:Int)):=(by omega);have hac:=(Xo0 HR).2 O2;have HA:=Ua hac;clear hac O2
     go_wp2_with (go_at_call_of 85 (Value.agg #[.int .i64 (k:Int)]);refine (Xo6 HR).mono ?_;rintro r w3 ⟨I0,a3,l3,c3,ms3,rfl,Qs,Y8,M7⟩;have H3:=Xh4 I0 Qs Y8 M7;clear I0 Qs Y8 M7)
     refine ⟨⟨i+1,some p,a3,l3,c3,ms3,rfl,congrArg (Value.int .i64) (by omega),E0,by simp,(Xo1 H3),(Xo2 H3),fun _=>(Xe3 H3),?_,Below.next0 (Xo5 HR) (Xo0 H3)⟩,by simp only[intOf];omega⟩;rw[(Xo4 HR),Q4l,(Xo7 HR),HA.out]
    ·have hi1:(0:Int)<(i:Int):=(by omega);obtain ⟨q,hq⟩:∃q,acc=some q:=Option.ne_none_iff_exists'.1 (fun e=>O2 ((Xo0 HR).1 e));have hmq:ms.map Q00.term=q:=(by rw[(Xo2 HR),hq];rfl);have Xh:=(Xo3 HR) (by rw[hq];simp);obtain ⟨Z,hZ⟩:∃Z,Qhq q p=Z:=⟨_,rfl⟩;have y8:=fun (W:World) (hW:Bw wr W) (a5:OA) (l5 c5:Nat) (ms5:List Q00) (h5:Q0e W a5 l5 c5 ms5) (t5:ms5.map Q00.term=p) (r5:Q1p k ms5)=>by
      have:=Qdi a1 n1 c1 ms a5 l5 c5 ms5 k W ((Xo1 HR).step hW) h5 Xh r5 ((Xo4 H).step (Below.next0 (Xe8 HR) hW));rw[hmq,t5,hZ] at this;exact this
     have G4:Q4l k none l=Qzb k (l.drop (i+1)) Z:=by
      rw[(Xo4 HR),hq,Qpb (Xo7 HR),hZ]
     have HA:=Xh3 y8 G4 hZ;clear y8 G4 hq hmq Xh O2;clear hZ;cases Z with
     |error er=>
      have Jj:(er==0)=false:=beq_eq_false_iff_ne.2 (Qby (Xe2 HA));have hX:X=.error er:=(by rw[<-(Xo5 H),(Xo1 HA)];rfl);have HX:=Ua hX;clear hX
      go_wp2_with (first|(go_at_call_of 85 (Value.agg #[.int .i64 (k:Int)]);refine (Xo6 HR).mono ?_;rintro r w3 ⟨I0,a3,l3,c3,ms3,rfl,Qs,Y8,M7⟩;(have r0:=(I0.cell (p:=⟨w.heap.size,0,none⟩) (UI r0)).trans r0);have H3:=Xh4 I0 Qs Y8 M7;clear I0 Qs Y8 M7)|(go_at_call_of 192 (Value.slice a1 n1 c1);refine ((Xo0 HA) _ (Xo0 H3) a3 l3 c3 ms3 (Xo1 H3) (Xo2 H3) (Xe3 H3)).mono ?_;rintro r w6 ⟨F4,a6,l6,c6,rfl⟩;have H6:=Ua F4;clear F4))
      exact ⟨rfl,.tuple #[.slice none 0 0,.int .i64 er],by simp[results,go_sem],Q1i.err HX.out (Below.next0 (Below.next0 (Xe8 HR) (Xo0 H3)) H6.out)⟩
     |ok q'=>
      go_wp2_with (first|(go_at_call_of 85 (Value.agg #[.int .i64 (k:Int)]);refine (Xo6 HR).mono ?_;rintro r w3 ⟨I0,a3,l3,c3,ms3,rfl,Qs,Y8,M7⟩;(have r0:=(I0.cell (p:=⟨w.heap.size,0,none⟩) (UI r0)).trans r0);have H3:=Xh4 I0 Qs Y8 M7;clear I0 Qs Y8 M7)|(go_at_call_of 192 (Value.slice a1 n1 c1);refine ((Xo0 HA) _ (Xo0 H3) a3 l3 c3 ms3 (Xo1 H3) (Xo2 H3) (Xe3 H3)).mono ?_;rintro r w6 ⟨F4,a6,l6,c6,ms6,rfl,WG,Wb,ZB⟩;have H6:=Xh4 F4 WG Wb ZB;clear F4 WG Wb ZB))
      exact ⟨⟨i+1,some q',a6,l6,c6,ms6,rfl,congrArg (Value.int .i64) (by omega),E0,by simp,(Xo1 H6),(Xo2 H6),fun _=>(Xe3 H6),(Xo1 HA),Below.next0 (Below.next0 (Xo5 HR) (Xo0 H3)) (Xo0 H6)⟩,by simp only[intOf];omega⟩
  ·have F0:¬((i:Int)<(n:Int)):=(by omega);have U5:i=l.length:=(by omega);have P0:acc≠none:=fun e=>by
    have:=Q6.1 e;have:=Xbc.2 (Xo1 H);omega
   rw[U5,List.drop_length,Q4l] at G4;have HS:=Xh5 Jm Z1 (F3 P0) G4 M0;clear Jm Z1 F3 G4 M0 Q6 U5 P0 K0
   go_wp2_with fail
   refine ⟨rfl,.tuple #[.slice a1 n1 c1,.int .i64 0],by simp[results,go_sem],Below.next0 (Xo7 H) (Xe4 HS),?_⟩;rw[<-(Xo5 H),(Xo3 HS)];exact ⟨a1,n1,c1,ms,rfl,(Xo0 HS),(Xo1 HS),(Xo2 HS)⟩
theorem Qn9 [LT ZK] {W:World} {a:OA} {l c:Nat} {be:OA} {le ce:Nat} {m:Q00} (hw:WordsIn W a l c m.ws) (he:Q0q W be le ce m.es) (h1: -9223372036854775808<=m.exp) (h2:m.exp<=9223372036854775807):
 Q0e (W.alloc (.cells #[.bool m.neg,.int .i64 m.exp,.slice a l c,.slice be le ce] 98)) (some ⟨W.heap.size,0,none⟩) 1 1 [m]:=by
 have hb:Bw W (W.alloc (.cells #[.bool m.neg,.int .i64 m.exp,.slice a l c,.slice be le ce] 98)):=Ba;have hX:=Q32.new W (.bool m.neg) (.int .i64 m.exp) (.slice a l c) (.slice be le ce) 98;refine ⟨rfl,Uf _,by decide,.inr ⟨W.heap.size,0,rfl,Q0p _ _,fun j m' hm=>?_⟩⟩;cases j with
 |zero=>
  simp only[US,Up] at hm;subst hm;exact ⟨a,l,c,be,le,ce,hX.c0,hX.c1,hX.c2,hX.c3,hw.step hb,he.step hb,h1,h2⟩
 |succ j=>simp at hm
theorem Qsr [LT ZK] {W:World} (k:Nat) (hk:k<=4):Q0q (W.alloc (.cells (Array.replicate k (nv .i64 0)) 3)) (some ⟨W.heap.size,0,none⟩) k k (List.replicate k 0):=by
 refine ⟨List.length_replicate ..,Uf _,by omega,(.new fun x hx=>by rw[TV hx];decide),.inr ⟨W.heap.size,0,rfl,Q0p _ _,fun j x hx=>?_⟩⟩;rw[Uw _ _ _ _ _ _ (Uo _ _),UV,<-Tn,Array.toList_replicate];rw[TK] at hx⊢
 split at hx
 ·rename_i h;injection hx with hx;subst hx;rw[Uu h];rfl
 ·cases hx
theorem Q8f [LT ZK] (k:Nat) (n:Bool) (e:Int) (a:OA) (l c:Nat) (L:LN) (w:World) (hw:WordsIn w a l c L) (hi:Q0a n e L) (J2:1<=k) (R5:k<=4) (hT:Q1s w):
 Calls Tryz.prog 132 #[.agg #[.int .i64 (k:Int)],.agg #[.bool n,.int .i64 e,.slice a l c]] w (Q1i w k (Q3q [(Q1r n e L,List.replicate k 0)])):=by
 obtain ⟨X,hX⟩:∃X,Q3q [(Q1r n e L,List.replicate k 0)]=X:=⟨_,rfl⟩;rw[hX];obtain ⟨W0,E1⟩:∃W0,(w.alloc (.cells #[.int .i64 (k:Int)] 124)).alloc (.cells #[.bool n,.int .i64 e,.slice a l c] 26)=W0:=⟨_,rfl⟩;have D2:(w.alloc (.cells #[.int .i64 (k:Int)] 124)).heap.size=w.heap.size+1:=Uk _ _;have A0:Bw w (w.alloc (.cells #[.int .i64 (k:Int)] 124)):=Ba;have D0:Bw w W0:=by rw[<-E1];exact A0.alloc (by rw[D2];omega) _
 have Q5:W0.heap.size=w.heap.size+2:=by rw[<-E1,Uk,D2]
 have k0:W0.cell? ⟨w.heap.size,0,none⟩=some (.int .i64 (k:Int)):=by
  rw[<-E1,Tb _ _ _ (by rw[D2];exact TU _),Uw _ _ _ _ _ _ (Uo _ _)];rfl
 have hh:W0.heap[w.heap.size+1]?=some (.cells #[.bool n,.int .i64 e,.slice a l c] 26 (0,0)):=by
  rw[<-E1,<-D2];exact Uo _ _
 have k1:W0.cell? ⟨w.heap.size+1,0,none⟩=some (.bool n):=by rw[Uw _ _ _ _ _ _ hh];rfl
 have k2:W0.cell? ⟨w.heap.size+1,1,none⟩=some (.int .i64 e):=by rw[Uw _ _ _ _ _ _ hh];rfl
 have k3:W0.cell? ⟨w.heap.size+1,2,none⟩=some (.slice a l c):=by rw[Uw _ _ _ _ _ _ hh];rfl
 have m5:=Xa7 (P:=Tryz.prog) 96 3 (.int .i64 0) 8 Tryz.underlying96 Qgr rfl .i64 .i64 k (by omega) (by omega);rw[Q2j] at m5;have I0:Bw w (W0.alloc (.cells (Array.replicate k (nv .i64 0)) 3)):=D0.alloc D0.size _;have K4:(W0.alloc (.cells (Array.replicate k (nv .i64 0)) 3)).heap.size=W0.heap.size+1:=Uk _ _;have K0:=Q2h hi hw;have XI:=Qn9 (m:=⟨n,e,L,List.replicate k 0⟩) (hw.step I0) (Qsr (W:=W0) k R5) (by show _<=e;omega) (by show e<=_;omega);rw[K4] at XI;have N1:=I0.alloc I0.size (.cells #[.bool n,.int .i64 e,.slice a l c,.slice (some ⟨W0.heap.size,0,none⟩) k k] 98);have C1:=Q81 N1;have Xb:=Q5u _ 1 1 _ k _ (XI.step (Q81 (Uc _ _))) (fun m hm=>by rw[UC] at hm;subst hm;exact ⟨Qdc k,hi⟩) J2 R5 (by omega) (hT.step C1);have Z5:Q3q (List.map Q00.term [(⟨n,e,L,List.replicate k 0⟩:Q00)])=X:=hX;rw[Z5] at Xb;have d0:(W0.alloc (.cells (Array.replicate k (nv .i64 0)) 3)).cell? ⟨w.heap.size,0,none⟩=some (.int .i64 (k:Int)):=(Tb _ _ _ (by show w.heap.size<W0.heap.size;omega)).trans k0;have d1:((W0.alloc (.cells (Array.replicate k (nv .i64 0)) 3)).alloc (.cells #[.bool n,.int .i64 e,.slice a l c,.slice (some ⟨W0.heap.size,0,none⟩) k k] 98)).cell? ⟨w.heap.size,0,none⟩=some (.int .i64 (k:Int)):=(Tb _ _ _ (by show w.heap.size<_;rw[K4];omega)).trans d0;have e1:(W0.alloc (.cells (Array.replicate k (nv .i64 0)) 3)).cell? ⟨w.heap.size+1,0,none⟩=some (.bool n):=(Tb _ _ _ (by show w.heap.size+1<W0.heap.size;omega)).trans k1;have e2:(W0.alloc (.cells (Array.replicate k (nv .i64 0)) 3)).cell? ⟨w.heap.size+1,1,none⟩=some (.int .i64 e):=(Tb _ _ _ (by show w.heap.size+1<W0.heap.size;omega)).trans k2;have e3:(W0.alloc (.cells (Array.replicate k (nv .i64 0)) 3)).cell? ⟨w.heap.size+1,2,none⟩=some (.slice a l c):=(Tb _ _ _ (by show w.heap.size+1<W0.heap.size;omega)).trans k3;have H:=Xh2 Xb C1;clear Xb C1 N1 XI I0 hX Z5 hh hw hi hT A0 D0 D2 Q5 K4
 go_enter Tryz.func132,Tryz.ntmps132
 go_upto_region 1 with fail
 go_region_law (refine Q3g (by rfl) 133 #[.slice (some ⟨W0.heap.size+1,0,none⟩) 1 1,.int .i64 (k:Int)] (by simp[go_sem]) ?_;refine (Xo0 H).mono ?_;rintro r w5 F1;obtain ⟨a5,l5,c5,er,rfl⟩:=F1.form;refine ⟨_,rfl,?_⟩;have H5:=Ua (F1.lower (Xe1 H));clear F1)
 all_goals go_wp2_with fail
 all_goals exact ⟨rfl,.tuple #[.slice a5 l5 c5,.int .i64 er],by simp[results,go_sem],H5.out⟩
def Qwq [LT ZK] (w:World) (k K:Nat) (p:List Q0l) (s7 s8 s31:Value) (wx:World):Prop:=∃(i:Nat) (q:List Q0l) (a:OA) (n c:Nat) (ms:List Q00),s7=.int .i64 0/\s8=.slice a n c/\s31=.int .i64 (i:Int)/\i<=K/\Q0e wx a n c ms/\ms.map Q00.term=q/\Q1p k ms/\Qkh p i=.ok q/\Bw w wx
theorem Qjc {p:List Q0l} {e:Int}:∀{K i:Nat},i<=K->Qkh p i=.error e->Qkh p K=.error e
 |0,i,hi,h=>by
  obtain rfl:i=0:=by omega
  exact h
 |K+1,i,hi,h=>by
  by_cases hiK:i=K+1
  ·subst hiK;exact h
  ·rw[Qkh,Qjc (by omega) h]
theorem Qss {k:Nat}:Q3q [((1:Dyadic),List.replicate k (0:Int))]=.ok [(1,List.replicate k 0)]:=
 Qhp (n:=k) ⟨List.pairwise_singleton _ _,by simp,fun q hq=>by
  rw[UC] at hq;subst hq;exact ⟨Qr3,Qbo,Qdc k⟩⟩
theorem Qjd [LT ZK] (k:Nat) (x:Ex) (K:Nat) (u:Value) (w:World) (hm:Q8s k x) (hx:Q2v (fun _=>False) w x u) (hK:K<=8) (J2:1<=k) (R5:k<=4) (hT:Q1s w):
 Calls Tryz.prog 136 #[.agg #[.int .i64 (k:Int)],.agg #[u,.int .i64 (K:Int)]] w (Q1i w k (Q2b k (.pow x K))):=by
 obtain ⟨X,hX⟩:∃X,Q2b k (.pow x K)=X:=⟨_,rfl⟩;rw[hX];obtain ⟨t0,u0,rfl⟩:=hx.face;obtain ⟨W0,E1⟩:∃W0,(w.alloc (.cells #[.int .i64 (k:Int)] 124)).alloc (.cells #[.iface t0 u0,.int .i64 (K:Int)] 184)=W0:=⟨_,rfl⟩;have D2:(w.alloc (.cells #[.int .i64 (k:Int)] 124)).heap.size=w.heap.size+1:=Uk _ _;have A0:Bw w (w.alloc (.cells #[.int .i64 (k:Int)] 124)):=Ba;have D0:Bw w W0:=by rw[<-E1];exact A0.alloc (by rw[D2];omega) _
 have Q5:W0.heap.size=w.heap.size+2:=by rw[<-E1,Uk,D2]
 have k0:W0.cell? ⟨w.heap.size,0,none⟩=some (.int .i64 (k:Int)):=by
  rw[<-E1,Tb _ _ _ (by rw[D2];exact TU _),Uw _ _ _ _ _ _ (Uo _ _)];rfl
 have hh:W0.heap[w.heap.size+1]?=some (.cells #[.iface t0 u0,.int .i64 (K:Int)] 184 (0,0)):=by
  rw[<-E1,<-D2];exact Uo _ _
 have k1:W0.cell? ⟨w.heap.size+1,0,none⟩=some (.iface t0 u0):=by rw[Uw _ _ _ _ _ _ hh];rfl
 have k2:W0.cell? ⟨w.heap.size+1,1,none⟩=some (.int .i64 (K:Int)):=by rw[Uw _ _ _ _ _ _ hh];rfl
 have G5:=hm _ W0 (hx.step' D0) (hT.step D0);obtain ⟨Y,hY⟩:∃Y,Q2b k x=Y:=⟨_,rfl⟩;rw[hY] at G5;have J3:w.heap.size<W0.heap.size:=by omega
 have i5:w.heap.size+1<W0.heap.size:=by omega
 have H:=Xh7 G5 hY hX hT D0 J3 i5;clear G5 hY hX hT D0 Q5 A0 D2 hh hm hx J3 i5
 go_enter Tryz.func136,Tryz.ntmps136
 cases Y with
 |error er=>
  have Jj:(er==0)=false:=beq_eq_false_iff_ne.2 (Q5k k x er (Xo1 H));have hX:X=.error er:=by rw[<-(Xo2 H),Q2b,(Xo1 H)]
  have HX:=Ua hX;clear hX
  go_wp2_with (go_at_call_of 85 (Value.agg #[.int .i64 (k:Int)]);refine (Xo0 H).mono ?_;rintro r w3 ⟨I0,a3,l3,c3,rfl⟩;have H3:=Ua I0;clear I0)
  exact ⟨rfl,.tuple #[.slice none 0 0,.int .i64 er],by simp[results,go_sem],Q1i.err HX.out (Below.next0 (Xo4 H) H3.out)⟩
 |ok p=>
  have hX:X=Qmc k p K:=by rw[<-(Xo2 H),Q2b,(Xo1 H)]
  go_upto_if 21 with (go_at_call_of 85 (Value.agg #[.int .i64 (k:Int)]);refine (Xo0 H).mono ?_;rintro r w3 ⟨I0,a3,l3,c3,ms3,rfl,Qs,Y8,M7⟩;(have k2:=(I0.cell (p:=⟨w.heap.size+1,1,none⟩) (Xe6 H)).trans k2);(have k0:=(I0.cell (p:=⟨w.heap.size,0,none⟩) (Xo5 H)).trans k0);have H3:=Xh4 I0 Qs Y8 M7;clear I0 Qs Y8 M7)
  cases K with
  |zero=>
   have JS:Calls Tryz.prog 113 #[.int .i64 1] w3.drew _:=Qae 1 w3.drew (by decide) ((Xo3 H).step (Q81 (Below.next0 (Xo4 H) (Xo0 H3))));have N5:X=Q3q [((1:Dyadic),List.replicate k (0:Int))]:=(by rw[hX,Qss];rfl);have HX:=Xh2 JS N5;clear JS hX N5;have k0d:w3.drew.cell? ⟨w.heap.size,0,none⟩=some (.int .i64 (k:Int)):=k0
   go_upto_region 5 with fail
   go_region_law (first
    |(refine Q3g (by rfl) 113 #[.int .i64 1] (by simp[go_sem]) ?_;refine (Xo0 HX).mono ?_;rintro r w4 ⟨n',e',a',l',c',L,rfl,S2,J0,S6,N1⟩;refine ⟨_,rfl,?_⟩;(have k0:=(N1.cell (p:=⟨w.heap.size,0,none⟩) (UI k0d)).trans k0d);(have Jy:=Below.next0 (Q81 (Below.next0 (Xo4 H) (Xo0 H3))) ⟨N1.os,N1.tape,N1.output,N1.size,N1.block⟩);(have U3:=Q8f k n' e' a' l' c' L w4 S6.toWordsIn S2 J2 R5 ((Xo3 H).step Jy));rw[J0] at U3;(have H4:=Xh2 U3 Jy);clear S2 J0 S6 N1 Jy U3)
    |(refine Q3g (by rfl) 132 #[.agg #[.int .i64 (k:Int)],.agg #[.bool n',.int .i64 e',.slice a' l' c']] (by simp[go_sem]) ?_;refine (Xo0 H4).mono ?_;rintro r w5 F1;obtain ⟨a5,l5,c5,er,rfl⟩:=F1.form;refine ⟨_,rfl,?_⟩;have H5:=Ua (F1.lower (Xe1 H4));clear F1))
   all_goals go_wp2_with fail
   all_goals exact ⟨rfl,.tuple #[.slice a5 l5 c5,.int .i64 er],by simp[results,go_sem],by rw[(Xe1 HX)];exact H5.out⟩
  |succ K=>
   have HX:=Ua hX;clear hX;have E3:wrap64 ((K:Int)+1-1)=(K:Int):=(by unfold wrap64;omega);have R4:wrap64 (K:Int)=(K:Int):=(by unfold wrap64;omega);have P0:(((K:Int)+1)==0)=false:=by rw[Uj];omega
   go_wp2_with fail
   rename World=>wz
   go_loopw [7,8,31] (fun s7 s8 s31 wr=>Qwq wz k K p s7 s8 s31 wr) (fun _ _ iv _=>K-(intOf iv).toNat)
   case atStart=>exact ⟨0,p,a3,l3,c3,ms3,rfl,rfl,rfl,Ut _,(Xo1 H3),(Xo2 H3),(Xe3 H3),rfl,Uc _ _⟩
   case round=>
    obtain ⟨i,q,a1,n1,c1,ms,rfl,rfl,rfl,hi,Jm,Z1,F3,U9,M0⟩:=hrel
    by_cases E0:i<K
    ·have F0:(i:Int)<(K:Int):=(by omega);have k0:=(M0.cell (p:=⟨w.heap.size,0,none⟩) (UI k0)).trans k0;obtain ⟨Z,hZ⟩:∃Z,Qhq q p=Z:=⟨_,rfl⟩;have y8:=Qdi a1 n1 c1 ms a3 l3 c3 ms3 k wr Jm ((Xo1 H3).step M0) F3 (Xe3 H3) ((Xo3 H).step (Below.next0 (Below.next0 (Xo4 H) (Xo0 H3)) M0));rw[Z1,(Xo2 H3),hZ] at y8;have z4:Qkh p (i+1)=Z:=(by rw[Qkh,U9];exact hZ);have HA:=Xh4 y8 z4 hZ M0;clear y8 z4 Jm Z1 F3 U9 M0;clear hZ;cases Z with
     |error er=>
      have Jj:(er==0)=false:=beq_eq_false_iff_ne.2 (Qby (Xo2 HA));have Zq:X=.error er:=(by rw[HX.out];exact Qjc (i:=i+1) E0 (Xo1 HA));have HX6:=Ua Zq;clear Zq
      go_wp2_with (go_at_call_of 192 (Value.slice a1 n1 c1);refine (Xo0 HA).mono ?_;rintro r w6 ⟨F4,a6,l6,c6,rfl⟩;have H6:=Ua F4;clear F4)
      exact ⟨rfl,.tuple #[.slice none 0 0,.int .i64 er],by simp[results,go_sem],Q1i.err HX6.out (Below.next0 (Below.next0 (Below.next0 (Xo4 H) (Xo0 H3)) (Xe3 HA)) H6.out)⟩
     |ok q'=>
      go_wp2_with (go_at_call_of 192 (Value.slice a1 n1 c1);refine (Xo0 HA).mono ?_;rintro r w6 ⟨F4,a6,l6,c6,ms6,rfl,WG,Wb,ZB⟩;have H6:=Xh4 F4 WG Wb ZB;clear F4 WG Wb ZB)
      have hrel:Qwq wz k K p (.int .i64 0) (.slice a6 l6 c6) (.int .i64 ((i:Int)+1)) w6:=⟨i+1,q',a6,l6,c6,ms6,rfl,rfl,congrArg (Value.int .i64) (by omega),E0,(Xo1 H6),(Xo2 H6),(Xe3 H6),(Xo1 HA),Below.next0 (Xe3 HA) (Xo0 H6)⟩;refine ⟨⟨_,_,_,_,_,_,_,_,_,_,_,_,_,_,_,_,_,_,hrel,rfl⟩,?_⟩;simp[intOf];omega
    ·have F0:¬((i:Int)<(K:Int)):=(by omega);have U5:i=K:=(by omega);rw[U5] at U9;have HS:=Xh5 Jm Z1 F3 U9 M0;clear Jm Z1 F3 U9 M0 U5
     go_wp2_with fail
     refine ⟨rfl,.tuple #[.slice a1 n1 c1,.int .i64 0],by simp[results,go_sem],Below.next0 (Below.next0 (Xo4 H) (Xo0 H3)) (Xe4 HS),?_⟩;have hXq:X=.ok q:=(by rw[HX.out];exact (Xo3 HS));rw[hXq];exact ⟨a1,n1,c1,ms,rfl,(Xo0 HS),(Xo1 HS),(Xo2 HS)⟩
theorem Qje (v:Value) (w:World):(Instr.typeAssert (.iface 171 v) 119 171 true).run Tryz.prog w=.ok (.tuple #[v,.bool true]) w:=by kernel_rfl
theorem Qlk (v:Value) (w:World):(Instr.typeAssert (.iface 174 v) 119 174 true).run Tryz.prog w=.ok (.tuple #[v,.bool true]) w:=by kernel_rfl
theorem Q9r (v:Value) (w:World):(Instr.typeAssert (.iface 174 v) 119 171 true).run Tryz.prog w=.ok (.tuple #[.agg #[.bool false,.int .i64 0,.slice none 0 0,.int .i64 0],.bool false]) w:=by kernel_rfl
theorem Qzc (v:Value) (w:World):(Instr.typeAssert (.iface 178 v) 119 178 true).run Tryz.prog w=.ok (.tuple #[v,.bool true]) w:=by kernel_rfl
theorem Qgw (v:Value) (w:World):(Instr.typeAssert (.iface 178 v) 119 171 true).run Tryz.prog w=.ok (.tuple #[.agg #[.bool false,.int .i64 0,.slice none 0 0,.int .i64 0],.bool false]) w:=by kernel_rfl
theorem Qdm (v:Value) (w:World):(Instr.typeAssert (.iface 178 v) 119 174 true).run Tryz.prog w=.ok (.tuple #[.agg #[.int .i64 0],.bool false]) w:=by kernel_rfl
theorem Qpc (v:Value) (w:World):(Instr.typeAssert (.iface 181 v) 119 181 true).run Tryz.prog w=.ok (.tuple #[v,.bool true]) w:=by kernel_rfl
theorem Qam (v:Value) (w:World):(Instr.typeAssert (.iface 181 v) 119 171 true).run Tryz.prog w=.ok (.tuple #[.agg #[.bool false,.int .i64 0,.slice none 0 0,.int .i64 0],.bool false]) w:=by kernel_rfl
theorem Q8t (v:Value) (w:World):(Instr.typeAssert (.iface 181 v) 119 174 true).run Tryz.prog w=.ok (.tuple #[.agg #[.int .i64 0],.bool false]) w:=by kernel_rfl
theorem Qed (v:Value) (w:World):(Instr.typeAssert (.iface 181 v) 119 178 true).run Tryz.prog w=.ok (.tuple #[.agg #[.slice none 0 0,.slice none 0 0],.bool false]) w:=by kernel_rfl
theorem Qvo (v:Value) (w:World):(Instr.typeAssert (.iface 184 v) 119 184 true).run Tryz.prog w=.ok (.tuple #[v,.bool true]) w:=by kernel_rfl
theorem Qdn (v:Value) (w:World):(Instr.typeAssert (.iface 184 v) 119 171 true).run Tryz.prog w=.ok (.tuple #[.agg #[.bool false,.int .i64 0,.slice none 0 0,.int .i64 0],.bool false]) w:=by kernel_rfl
theorem Qan (v:Value) (w:World):(Instr.typeAssert (.iface 184 v) 119 174 true).run Tryz.prog w=.ok (.tuple #[.agg #[.int .i64 0],.bool false]) w:=by kernel_rfl
theorem Qjf (v:Value) (w:World):(Instr.typeAssert (.iface 184 v) 119 178 true).run Tryz.prog w=.ok (.tuple #[.agg #[.slice none 0 0,.slice none 0 0],.bool false]) w:=by kernel_rfl
theorem Qbg (v:Value) (w:World):(Instr.typeAssert (.iface 184 v) 119 181 true).run Tryz.prog w=.ok (.tuple #[.agg #[.slice none 0 0],.bool false]) w:=by kernel_rfl
theorem Qzd [LT ZK] (k:Nat):Q8s k (.num none):=by
 intro v w hx hT;rw[Q2v] at hx;obtain ⟨u0,u1,u2,l2,c2,rfl⟩:=hx;clear hT;rw[Q2b];have has:=Qje
 go_enter Tryz.func85,Tryz.ntmps85
 go_wp2_with fail
 go_quiet (fail)
 go_wp2_with fail
 exact ⟨rfl,.tuple #[.slice none 0 0,.int .i64 2],by simp[results,go_sem],Q1i.err rfl (Below.drewN' ((Ba).alloc (by rw[Uk];omega) _) _)⟩
theorem Qst [LT ZK] (k:Nat) (c:Dyadic) (J2:1<=k) (R5:k<=4):Q8s k (.num (some c)):=by
 intro v w hx hT;rw[Q2v] at hx;obtain ⟨n,e,a,l,q,L,rfl,hw,_,hi,hv⟩:=hx;rw[Q2b];obtain ⟨W0,E1⟩:∃W0,(w.alloc (.cells #[.int .i64 (k:Int)] 124)).alloc (.cells #[.bool n,.int .i64 e,.slice a l q,.int .i64 0] 171)=W0:=⟨_,rfl⟩;have D2:(w.alloc (.cells #[.int .i64 (k:Int)] 124)).heap.size=w.heap.size+1:=Uk _ _;have A0:Bw w (w.alloc (.cells #[.int .i64 (k:Int)] 124)):=Ba;have D0:Bw w W0:=by rw[<-E1];exact A0.alloc (by rw[D2];omega) _
 have k0:W0.cell? ⟨w.heap.size,0,none⟩=some (.int .i64 (k:Int)):=by
  rw[<-E1,Tb _ _ _ (by rw[D2];exact TU _),Uw _ _ _ _ _ _ (Uo _ _)];rfl
 have hh:W0.heap[w.heap.size+1]?=some (.cells #[.bool n,.int .i64 e,.slice a l q,.int .i64 0] 171 (0,0)):=by
  rw[<-E1,<-D2];exact Uo _ _
 have k1:W0.cell? ⟨w.heap.size+1,0,none⟩=some (.bool n):=by rw[Uw _ _ _ _ _ _ hh];rfl
 have k2:W0.cell? ⟨w.heap.size+1,1,none⟩=some (.int .i64 e):=by rw[Uw _ _ _ _ _ _ hh];rfl
 have k3:W0.cell? ⟨w.heap.size+1,2,none⟩=some (.slice a l q):=by rw[Uw _ _ _ _ _ _ hh];rfl
 have k4:W0.cell? ⟨w.heap.size+1,3,none⟩=some (.int .i64 0):=by rw[Uw _ _ _ _ _ _ hh];rfl
 have U3:=Q8f k n e a l q L W0 (hw.step D0) hi J2 R5 (hT.step D0);rw[hv] at U3;subst E1;have H:=Xh2 U3 D0;clear U3 D0 hw hi hv hT A0 D2 hh;have has:=Qje
 go_enter Tryz.func85,Tryz.ntmps85
 go_wp2_with (go_at_call_of 132 (Value.agg #[.int .i64 (k:Int)]);refine (Xo0 H).mono ?_;rintro r w5 F1;obtain ⟨a5,l5,c5,er,rfl⟩:=F1.form;have H5:=Ua (F1.lower (Xe1 H));clear F1)
 exact ⟨rfl,.tuple #[.slice a5 l5 c5,.int .i64 er],by simp[results,go_sem],H5.out⟩
theorem Qvp [LT ZK] {W:World} {k i:Nat} (hi:i<k) (hk:k<=4):Q0q (W.alloc (.cells ((Array.replicate k (nv .i64 0)).setIfInBounds i (.int .i64 1)) 3)) (some ⟨W.heap.size,0,none⟩) k k (Qb9 k i):=by
 refine ⟨by simp[Qb9],Uf _,by omega,.new fun x hx=>?_,.inr ⟨W.heap.size,0,rfl,Q0p _ _,fun j x hx=>?_⟩⟩
 ·unfold Qb9 at hx;rcases Xa3 hx with h|rfl
  ·rw[TV h];decide
  ·decide
 ·unfold Qb9 at hx;rw[UV,Uw _ _ _ _ _ _ (Uo _ _),<-Tn,Xay,Array.toList_replicate]
  by_cases e:i=j
  ·subst e;rw[TN (by simpa using hi)] at hx⊢;injection hx with hx;subst hx;rfl
  ·rw[Th e,TK] at hx⊢
   split at hx
   ·rename_i h;injection hx with hx;subst hx;rw[Uu h];rfl
   ·cases hx
theorem Qze [LT ZK] (k i:Nat) (hi:i<k) (J2:1<=k) (R5:k<=4):Q8s k (.var i):=by
 intro v w hx hT;rw[Q2v] at hx;subst hx;rw[Q2b];obtain ⟨X,hX⟩:∃X,Q3q [((1:Dyadic),Qb9 k i)]=X:=⟨_,rfl⟩;rw[hX];have H:=Xh2 hT hX;clear hT hX;have m5:=Xa7 (P:=Tryz.prog) 96 3 (.int .i64 0) 8 Tryz.underlying96 Qgr rfl .i64 .i64 k (by omega) (by omega);rw[Q2j] at m5;have g9:(i:Int)<(k:Int):=by omega
 have h1:=Qlk;have h2:=Q9r
 go_enter Tryz.func85,Tryz.ntmps85
 obtain ⟨W2,u4⟩:∃W2,(w.alloc (.cells #[.int .i64 (k:Int)] 124)).alloc (.cells #[.int .i64 (i:Int)] 174)=W2:=⟨_,rfl⟩;have D2:(w.alloc (.cells #[.int .i64 (k:Int)] 124)).heap.size=w.heap.size+1:=Uk _ _;have D0:Bw w W2:=by rw[<-u4];exact (Ba).alloc (by rw[D2];omega) _
 have Q5:W2.heap.size=w.heap.size+2:=by rw[<-u4,Uk,D2]
 have k0:W2.cell? ⟨w.heap.size,0,none⟩=some (.int .i64 (k:Int)):=by
  rw[<-u4,Tb _ _ _ (by rw[D2];exact TU _),Uw _ _ _ _ _ _ (Uo _ _)];rfl
 have k1:W2.cell? ⟨w.heap.size+1,0,none⟩=some (.int .i64 (i:Int)):=by
  have hh:=Uo (w.alloc (.cells #[.int .i64 (k:Int)] 124)) (.cells #[.int .i64 (i:Int)] 174);rw[D2,u4] at hh;rw[Uw _ _ _ _ _ _ hh];rfl
 have J3:w.heap.size<W2.heap.size:=by omega
 have i5:w.heap.size+1<W2.heap.size:=by omega
 have z0:=(Tb W2 (.cells (Array.replicate k (nv .i64 0)) 3) _ J3).trans k0;have z1:=(Tb W2 (.cells (Array.replicate k (nv .i64 0)) 3) _ i5).trans k1;have hzn:=Uo W2 (.cells (Array.replicate k (nv .i64 0)) 3);have z2:(W2.alloc (.cells (Array.replicate k (nv .i64 0)) 3)).cell? ⟨W2.heap.size,i,none⟩=some (.int .i64 0):=by
  rw[Uw _ _ _ _ _ _ hzn];simp[hi,nv]
 have z3:(W2.alloc (.cells (Array.replicate k (nv .i64 0)) 3)).frozen? ⟨W2.heap.size,i,none⟩=false:=TO _ _ _ _ _ hzn;have I0:Bw w (W2.alloc (.cells ((Array.replicate k (nv .i64 0)).setIfInBounds i (.int .i64 1)) 3)):=D0.alloc D0.size _;have he:=Qvp (W:=W2) hi R5;have r0:(W2.alloc (.cells ((Array.replicate k (nv .i64 0)).setIfInBounds i (.int .i64 1)) 3)).cell? ⟨w.heap.size,0,none⟩=some (.int .i64 (k:Int)):=(Tb _ _ _ J3).trans k0;have Qd:w.heap.size<(W2.alloc (.cells ((Array.replicate k (nv .i64 0)).setIfInBounds i (.int .i64 1)) 3)).heap.size:=by rw[Uk];omega
 have JS:Calls Tryz.prog 113 #[.int .i64 1] (W2.alloc (.cells ((Array.replicate k (nv .i64 0)).setIfInBounds i (.int .i64 1)) 3)).drew _:=Qae 1 _ (by decide) ((Xo0 H).step (Q81 I0));have HZ:=Xh4 Q5 D0 J3 i5;have H3:=Xh4 I0 he Qd JS;clear D2 Q5 D0 hzn J3 i5 I0 he Qd JS
 go_upto_region 11 with fail
 clear z0 z1 z2 z3 k0 k1;generalize j6:World.alloc _ _=W3 at r0 H3⊢;clear j6 u4;have r0d:W3.drew.cell? ⟨w.heap.size,0,none⟩=some (.int .i64 (k:Int)):=r0
 go_region_law (first
  |(refine Q3g (by rfl) 113 #[.int .i64 1] (by simp[go_sem]) ?_;refine (Xe3 H3).mono ?_;rintro r w4 ⟨n',e',a',l',c',L,rfl,S2,J0,S6,XK⟩;refine ⟨_,rfl,?_⟩
    have N1:Bw W3 w4:=⟨XK.os,XK.tape,XK.output,XK.size,XK.block⟩;have s0:=(N1.cell (p:=⟨w.heap.size,0,none⟩) (Xo2 H3)).trans r0;have C1:=Below.next0 (Xo0 H3) N1;have I9:=Q2h S2 S6.toWordsIn;have XI:=Qn9 (m:=⟨n',e',L,Qb9 k i⟩) S6.toWordsIn ((Xo1 H3).step N1) (by show _<=e';omega) (by show e'<=_;omega);have F4:=C1.alloc C1.size (.cells #[.bool n',.int .i64 e',.slice a' l' c',.slice (some ⟨W2.heap.size,0,none⟩) k k] 98);have Xb:=Q5u _ 1 1 _ k _ XI (fun m hm=>by rw[UC] at hm;subst hm;exact ⟨Qor hi,S2⟩) J2 R5 (by omega) ((Xo0 H).step F4);have Z5:Q3q (List.map Q00.term [(⟨n',e',L,Qb9 k i⟩:Q00)])=X:=by
     rw[<-(Xe1 H)]
     show Q3q [(Q1r n' e' L,Qb9 k i)]=_
     rw[J0];rfl
    rw[Z5] at Xb;have s1:=(Tb w4 (.cells #[.bool n',.int .i64 e',.slice a' l' c',.slice (some ⟨W2.heap.size,0,none⟩) k k] 98) _ (UI s0)).trans s0;have H4:=Xh2 Xb F4;clear S2 J0 S6 N1 XK C1 I9 XI F4 Xb Z5)
  |(refine Q3g (by rfl) 133 #[.slice (some ⟨w4.heap.size,0,none⟩) 1 1,.int .i64 (k:Int)] (by simp[go_sem]) ?_;refine (Xo0 H4).mono ?_;rintro r w5 F1;obtain ⟨a5,l5,c5,er,rfl⟩:=F1.form;refine ⟨_,rfl,?_⟩;have H5:=Ua (F1.lower (Xe1 H4));clear F1))
 all_goals go_wp2_with fail
 all_goals exact ⟨rfl,.tuple #[.slice a5 l5 c5,.int .i64 er],by simp[results,go_sem],H5.out⟩
theorem Qdo:maxLen<=9223372036854775807:=by unfold maxLen;omega
theorem Qzf [LT ZK] (k:Nat) (l:List (Bool × Ex)) (hm:∀(i:Nat) (t:Bool) (x:Ex),l[i]?=some (t,x)->Q8s k x):Q8s k (.sum l):=by
 intro v w hx hT;rw[Q2v] at hx;obtain ⟨a,b,c,d,rfl,_,_,ha,hb,hc,A2,hd,A7,P0,hx⟩:=hx;rw[Q2b];obtain ⟨n,hn⟩:∃n,l.length=n:=⟨_,rfl⟩;obtain ⟨W0,E1⟩:∃W0,(w.alloc (.cells #[.int .i64 (k:Int)] 124)).alloc (.cells #[.slice (some ⟨a,0,none⟩) n c,.slice (some ⟨b,0,none⟩) n d] 178)=W0:=⟨_,rfl⟩;have D2:(w.alloc (.cells #[.int .i64 (k:Int)] 124)).heap.size=w.heap.size+1:=Uk _ _;have A0:Bw w (w.alloc (.cells #[.int .i64 (k:Int)] 124)):=Ba;have D0:Bw w W0:=by rw[<-E1];exact A0.alloc (by rw[D2];omega) _
 have Q5:W0.heap.size=w.heap.size+2:=by rw[<-E1,Uk,D2]
 have k0:W0.cell? ⟨w.heap.size,0,none⟩=some (.int .i64 (k:Int)):=by
  rw[<-E1,Tb _ _ _ (by rw[D2];exact TU _),Uw _ _ _ _ _ _ (Uo _ _)];rfl
 have hh:W0.heap[w.heap.size+1]?=some (.cells #[.slice (some ⟨a,0,none⟩) n c,.slice (some ⟨b,0,none⟩) n d] 178 (0,0)):=by
  rw[<-E1,<-D2];exact Uo _ _
 have k1:W0.cell? ⟨w.heap.size+1,0,none⟩=some (.slice (some ⟨a,0,none⟩) n c):=by rw[Uw _ _ _ _ _ _ hh];rfl
 have k2:W0.cell? ⟨w.heap.size+1,1,none⟩=some (.slice (some ⟨b,0,none⟩) n d):=by rw[Uw _ _ _ _ _ _ hh];rfl
 have O4:Q2v (fun _=>False) w (.sum l) (.iface 178 (.agg #[.slice (some ⟨a,0,none⟩) l.length c,.slice (some ⟨b,0,none⟩) l.length d])):=by
  rw[Q2v];exact ⟨a,b,c,d,rfl,id,id,ha,hb,hc,A2,hd,A7,P0,hx⟩
 have S4:=O4.step' D0;rw[Q2v] at S4;obtain ⟨a',b',c',d',he,_,_,WM,K3,_,_,_,_,_,D9⟩:=S4;injection he with _ he;injection he with he;injection he with he;injection he with XM D5;injection XM with e1 _ e3;injection e1 with e1;injection e1 with e1;injection D5 with D5;injection D5 with e4 _ e6;injection e4 with e4;injection e4 with e4;subst e1;subst e3;subst e4;subst e6;have U3:=Qja k l a b c d W0 hm P0 WM K3 (Ul hc (Ul A2 Qdo)) D9 (hT.step D0);rw[hn] at U3⊢;subst E1;have H:=Xh2 U3 D0;clear U3 D0 hT A0 D2 Q5 hh hx O4 D9 hm P0 ha hb WM K3 hc A2 hd A7 hn;have t1:=Qzc;have t2:=Qgw;have t3:=Qdm
 go_enter Tryz.func85,Tryz.ntmps85
 go_wp2_with (go_at_call_of 134 (Value.agg #[.int .i64 (k:Int)]);refine (Xo0 H).mono ?_;rintro r w5 F1;obtain ⟨a5,l5,c5,er,rfl⟩:=F1.form;have H5:=Ua (F1.lower (Xe1 H));clear F1)
 exact ⟨rfl,.tuple #[.slice a5 l5 c5,.int .i64 er],by simp[results,go_sem],H5.out⟩
theorem Qzg [LT ZK] (k:Nat) (l:List Ex) (hm:∀(i:Nat) (x:Ex),l[i]?=some x->Q8s k x):Q8s k (.prod l):=by
 intro v w hx hT;rw[Q2v] at hx;obtain ⟨a,c,rfl,_,ha,hc,A2,P0,hx⟩:=hx;rw[Q2b];obtain ⟨n,hn⟩:∃n,l.length=n:=⟨_,rfl⟩;obtain ⟨W0,E1⟩:∃W0,(w.alloc (.cells #[.int .i64 (k:Int)] 124)).alloc (.cells #[.slice (some ⟨a,0,none⟩) n c] 181)=W0:=⟨_,rfl⟩;have D2:(w.alloc (.cells #[.int .i64 (k:Int)] 124)).heap.size=w.heap.size+1:=Uk _ _;have A0:Bw w (w.alloc (.cells #[.int .i64 (k:Int)] 124)):=Ba;have D0:Bw w W0:=by rw[<-E1];exact A0.alloc (by rw[D2];omega) _
 have k0:W0.cell? ⟨w.heap.size,0,none⟩=some (.int .i64 (k:Int)):=by
  rw[<-E1,Tb _ _ _ (by rw[D2];exact TU _),Uw _ _ _ _ _ _ (Uo _ _)];rfl
 have hh:W0.heap[w.heap.size+1]?=some (.cells #[.slice (some ⟨a,0,none⟩) n c] 181 (0,0)):=by
  rw[<-E1,<-D2];exact Uo _ _
 have k1:W0.cell? ⟨w.heap.size+1,0,none⟩=some (.slice (some ⟨a,0,none⟩) n c):=by rw[Uw _ _ _ _ _ _ hh];rfl
 have D9:Qag (fun _=>False) W0 a 0 l:=Qag.turn (Q0v.of_below D0 (fun _=>False)) (fun _ h=>h.elim) (fun h=>h.elim) ha hx;have U3:=Qjb k l a c W0 hm P0 (Ue ha D0.size) (Ul hc (Ul A2 Qdo)) D9 (hT.step D0);rw[hn] at U3⊢;subst E1;have H:=Xh2 U3 D0;clear U3 D0 hT A0 D2 hh hx D9 hm P0 ha hc A2 hn;have t1:=Qpc;have t2:=Qam;have t3:=Q8t;have t4:=Qed
 go_enter Tryz.func85,Tryz.ntmps85
 go_wp2_with (go_at_call_of 135 (Value.agg #[.int .i64 (k:Int)]);refine (Xo0 H).mono ?_;rintro r w5 F1;obtain ⟨a5,l5,c5,er,rfl⟩:=F1.form;have H5:=Ua (F1.lower (Xe1 H));clear F1)
 exact ⟨rfl,.tuple #[.slice a5 l5 c5,.int .i64 er],by simp[results,go_sem],H5.out⟩
theorem Qzh [LT ZK] (k:Nat) (x:Ex) (K:Nat) (hm:Q8s k x) (hK:K<=8) (J2:1<=k) (R5:k<=4):Q8s k (.pow x K):=by
 intro v w hx hT;rw[Q2v] at hx;obtain ⟨u,rfl,hx⟩:=hx;obtain ⟨t0,u0,rfl⟩:=hx.face;obtain ⟨X,hX⟩:∃X,Q2b k (.pow x K)=X:=⟨_,rfl⟩;rw[hX];obtain ⟨W0,E1⟩:∃W0,(w.alloc (.cells #[.int .i64 (k:Int)] 124)).alloc (.cells #[.iface t0 u0,.int .i64 (K:Int)] 184)=W0:=⟨_,rfl⟩;have D2:(w.alloc (.cells #[.int .i64 (k:Int)] 124)).heap.size=w.heap.size+1:=Uk _ _;have A0:Bw w (w.alloc (.cells #[.int .i64 (k:Int)] 124)):=Ba;have D0:Bw w W0:=by rw[<-E1];exact A0.alloc (by rw[D2];omega) _
 have k0:W0.cell? ⟨w.heap.size,0,none⟩=some (.int .i64 (k:Int)):=by
  rw[<-E1,Tb _ _ _ (by rw[D2];exact TU _),Uw _ _ _ _ _ _ (Uo _ _)];rfl
 have hh:W0.heap[w.heap.size+1]?=some (.cells #[.iface t0 u0,.int .i64 (K:Int)] 184 (0,0)):=by
  rw[<-E1,<-D2];exact Uo _ _
 have k1:W0.cell? ⟨w.heap.size+1,0,none⟩=some (.iface t0 u0):=by rw[Uw _ _ _ _ _ _ hh];rfl
 have k2:W0.cell? ⟨w.heap.size+1,1,none⟩=some (.int .i64 (K:Int)):=by rw[Uw _ _ _ _ _ _ hh];rfl
 have U3:=Qjd k x K _ W0 hm (hx.step' D0) hK J2 R5 (hT.step D0);rw[hX] at U3;subst E1;have H:=Xh2 U3 D0;clear U3 D0 hT A0 D2 hh hx hm hX;have t1:=Qvo;have t2:=Qdn;have t3:=Qan;have t4:=Qjf;have t5:=Qbg
 go_enter Tryz.func85,Tryz.ntmps85
 go_wp2_with (go_at_call_of 136 (Value.agg #[.int .i64 (k:Int)]);refine (Xo0 H).mono ?_;rintro r w5 F1;obtain ⟨a5,l5,c5,er,rfl⟩:=F1.form;have H5:=Ua (F1.lower (Xe1 H));clear F1)
 exact ⟨rfl,.tuple #[.slice a5 l5 c5,.int .i64 er],by simp[results,go_sem],H5.out⟩
mutual
theorem Qna [LT ZK] (k:Nat) (J2:1<=k) (R5:k<=4):∀(x:Ex),Q48 k x->Q8s k x
 | .num none,_=>Qzd k
 | .num (some c),_=>Qst k c J2 R5
 | .var i,h=>by rw[Q48] at h;exact Qze k i h J2 R5
 | .sum l,h=>by rw[Q48] at h;exact Qzf k l (Qsu k J2 R5 l h)
 | .prod l,h=>by rw[Q48] at h;exact Qzg k l (Qsv k J2 R5 l h)
 | .pow x K,h=>by rw[Q48] at h;exact Qzh k x K (Qna k J2 R5 x h.1) h.2 J2 R5
theorem Qsu [LT ZK] (k:Nat) (J2:1<=k) (R5:k<=4):∀(l:List (Bool × Ex)),Q87 k l->∀(i:Nat) (t:Bool) (x:Ex),l[i]?=some (t,x)->Q8s k x
 |[],_,i,t,x,hi=>by simp at hi
 |(t0,x0)::r,h,0,t,x,hi=>by
  rw[Q87] at h;simp only[US,Up,Xat] at hi;obtain ⟨_,rfl⟩:=hi;exact Qna k J2 R5 x0 h.1
 |(t0,x0)::r,h,i+1,t,x,hi=>by
  rw[Q87] at h;exact Qsu k J2 R5 r h.2 i t x (by simpa using hi)
theorem Qsv [LT ZK] (k:Nat) (J2:1<=k) (R5:k<=4):∀(l:List Ex),Q8p k l->∀(i:Nat) (x:Ex),l[i]?=some x->Q8s k x
 |[],_,i,x,hi=>by simp at hi
 |x0::r,h,0,x,hi=>by
  rw[Q8p] at h;simp only[US,Up] at hi;subst hi;exact Qna k J2 R5 x0 h.1
 |x0::r,h,i+1,x,hi=>by
  rw[Q8p] at h;exact Qsv k J2 R5 r h.2 i x (by simpa using hi)
end
theorem Qpd:(Tryz.prog.info? 42).map (fun i=>(i.zero,i.size,i.bytes))=some (some (.slice none 0 0),1,24):=by kernel_rfl
def Sl (v:Value):Prop:=∃a n c,v=.slice a n c
theorem Q0e.kept [LT ZK] {w w':World} {a:OA} {n c:Nat} {ms:List Q00} (h:Q0e w a n c ms) (row:Option Nat) (hg:w.grownBy w' row) (hs:∀g,row=some g->∀o v,w.cell? ⟨g,o,none⟩=some v->Sl v):Q0e w' a n c ms:=by
 have hk:∀(b o:Nat) (v:Value),b<w.heap.size->w.cell? ⟨b,o,none⟩=some v->¬Sl v->w'.heap[b]?=w.heap[b]?:=fun b o v hb hc hn=>hg.block b hb (fun e=>hn (hs b e.symm o v hc));obtain ⟨h1,h2,h3,h4⟩:=h;refine ⟨h1,h2,h3,?_⟩;rcases h4 with h4|⟨b,o,h5,h6,h7⟩
 ·exact .inl h4
 ·refine .inr ⟨b,o,h5,Ue h6 hg.size,fun j m hm=>?_⟩;obtain ⟨aw,lw,cw,ae,le,ce,q0,q1,q2,q3,hw,hi,hx⟩:=h7 j m hm;have hb:=hk b _ _ h6 q0 (fun ⟨_,_,_,e⟩=>by cases e);have hc:∀o,w'.cell? ⟨b,o,none⟩=w.cell? ⟨b,o,none⟩:=fun o=>UR (a:=⟨b,o,none⟩) hb;refine ⟨aw,lw,cw,ae,le,ce,(hc _).trans q0,(hc _).trans q1,(hc _).trans q2,(hc _).trans q3,⟨hw.len,hw.cap,hw.most,hw.low,?_⟩,⟨hi.len,hi.cap,hi.most,hi.rng,?_⟩,hx⟩
  ·rcases hw.rd with h0|⟨bb,oo,e,Y2,x4⟩
   ·exact .inl h0
   ·exact .inr ⟨bb,oo,e,Ue Y2 hg.size,fun i x hx=>(UR (a:=⟨bb,oo+i,none⟩) (hk bb _ _ Y2 (x4 i x hx) (fun ⟨_,_,_,e⟩=>by cases e))).trans (x4 i x hx)⟩
  ·rcases hi.rd with h0|⟨bb,oo,e,Y2,x4⟩
   ·exact .inl h0
   ·exact .inr ⟨bb,oo,e,Ue Y2 hg.size,fun i x hx=>(UR (a:=⟨bb,oo+i,none⟩) (hk bb _ _ Y2 (x4 i x hx) (fun ⟨_,_,_,e⟩=>by cases e))).trans (x4 i x hx)⟩
theorem Q88.sl {w:World} {B:Nat} {e:TypeId} {k n c:Nat} {a:OA} {xs:LV} (h:Q88 Sl w B e k a n c xs):∀g,a.map (·.block)=some g->∀o v,w.cell? ⟨g,o,none⟩=some v->Sl v:=by
 intro g hg o v hv;rcases h.1.form with ⟨h0,_⟩|⟨g',cur,rfl,_,_,hh,_⟩
 ·rw[h0] at hg;cases hg
 ·simp only[UE,Up] at hg;subst hg;rw[Uw _ _ _ _ _ _ hh] at hv;exact h.2 g' cur _ _ rfl hh v (Array.mem_toList_iff.2 (Array.mem_of_getElem? hv))
theorem Q5j.get {w:World} {g:Nat}:∀{l:List (Nat × Ex)} {o i p:Nat} {x:Ex},Q5j w g o l->l[i]?=some (p,x)->w.cell? ⟨g,o+i*2,none⟩=some (.int .i64 (p:Int))/\∃u,w.cell? ⟨g,o+i*2+1,none⟩=some u/\Q2v (fun _=>False) w x u
 |[],_,_,_,_,_,hi=>by simp at hi
 |(p0,x0)::r,o,0,p,x,h,hi=>by
  simp only[US,Up,Xat] at hi;obtain ⟨rfl,rfl⟩:=hi;exact ⟨h.1,h.2.1⟩
 |(p0,x0)::r,o,i+1,p,x,h,hi=>by
  have:=Q5j.get (i:=i) h.2.2 (by simpa using hi);rwa[show o+2+i*2=o+(i+1)*2 by omega] at this
def Qwr:Except Nat (List (Nat × Ex))->Except (Nat × Int) (List (List Q0l))
 | .error p=>.error (p,5)
 | .ok l=>Q30 l.length l []
theorem Qjg (s:LU):Q99 s=Qwr (Q4s s (min (s.count 10) 4) 4 0 []):=by
 unfold Q99;cases Q4s s (min (s.count 10) 4) 4 0 [] <;> rfl
def Qbz [LT ZK] (w:World) (X:Except (Nat × Int) (List (List Q0l))) (r:Ending) (w':World):Prop:=Bw w w'/\match X with
 | .error (p,e)=>r=.returned (.tuple #[.slice none 0 0,.int .i64 (p:Int),.int .i64 e])
 | .ok F=>∃a n c Fv,r=.returned (.tuple #[.slice a n c,.int .i64 0,.int .i64 0])/\Q1v w' a n c Fv/\Fv.map (List.map Q00.term)=F/\Q1w Fv
theorem Qbz.err [LT ZK] {w w':World} {X:Except (Nat × Int) (List (List Q0l))} {p:Nat} {e:Int} (hX:X=.error (p,e)) (hb:Bw w w'):Qbz w X (.returned (.tuple #[.slice none 0 0,.int .i64 (p:Int),.int .i64 e])) w':=⟨hb,by rw[hX]⟩
def Q9s [LT ZK] (w:World) (X:Except (Nat × Int) (List (List Q0l))) (r:Ending) (w':World):Prop:=Qbz w X r w'/\∀b o n c p e,r=.returned (.tuple #[.slice (some ⟨b,o,none⟩) n c,p,e])->w.heap.size<=b
theorem Q9s.err [LT ZK] {w w':World} {X:Except (Nat × Int) (List (List Q0l))} {p:Nat} {e:Int} (hX:X=.error (p,e)) (hb:Bw w w'):Q9s w X (.returned (.tuple #[.slice none 0 0,.int .i64 (p:Int),.int .i64 e])) w':=⟨Qbz.err hX hb,fun _ _ _ _ _ _ h=>by simp at h⟩
def Qsw [LT ZK] (w:World) (k:Nat) (l:List (Nat × Ex)) (s8 s24:Value) (wx:World):Prop:=∃(i:Nat) (a:OA) (c:Nat) (Fv:List (List Q00)) (vs:LV),s8=.slice a i c/\s24=.int .i64 (i:Int)/\i<=l.length/\Fv.length=i/\Q88 Sl wx w.heap.size 42 1 a i c vs/\
 (∀(j:Nat) (ms:List Q00),Fv[j]?=some ms->∃(p:OA) (n d:Nat),vs[j]?=some (Value.slice p n d)/\Q0e wx p n d ms/\Q1p k ms)/\Q30 k l []=Q30 k (l.drop i) (Fv.map (List.map Q00.term))/\Bw w wx
theorem Qsw.done [LT ZK] {w wx:World} {k i c:Nat} {a:OA} {Fv:List (List Q00)} {vs:LV} (hl:Fv.length=i) (hr:Q88 Sl wx w.heap.size 42 1 a i c vs) (R1:∀(j:Nat) (ms:List Q00),Fv[j]?=some ms->∃(p:OA) (n d:Nat),vs[j]?=some (Value.slice p n d)/\Q0e wx p n d ms/\Q1p k ms):Q1v wx a i c Fv:=by
 have J4:=hr.1.cap;refine ⟨hl,J4.1,Ul J4.2 Qdo,?_⟩;rcases hr.1.form with ⟨_,h0,_⟩|⟨g,cur,rfl,_,E0,_⟩
 ·exact .inl (Ty (by omega))
 ·refine .inr ⟨g,0,rfl,E0,fun j ms hm=>?_⟩;obtain ⟨p,n,d,h1,h2,_⟩:=R1 j ms hm;obtain ⟨g',e,_,_,h3⟩:=hr.1.at_ h1;injection e with e;injection e with e;subst e;exact ⟨p,n,d,by rw[UV];exact h3,h2⟩
theorem Qee [LT ZK] (s:ByteArray) (w:World) (hs:s.size<=1000000) (hT:Q1s w):
 Calls Tryz.prog 49 #[.string s] w (Q9s w (Q99 s.data.toList)):=by
 obtain ⟨i0,O2,E2,I2,X1⟩:=Q1c Qpd;have HI:=Xh4 O2 E2 I2 X1;clear O2 E2 I2 X1;have Q2:=Qsn s w hs hT;obtain ⟨Y,hY⟩:∃Y,Q4s s.data.toList (min (s.data.toList.count 10) 4) 4 0 []=Y:=⟨_,rfl⟩;rw[hY] at Q2;obtain ⟨X,hX⟩:∃X,Q99 s.data.toList=X:=⟨_,rfl⟩;rw[hX];have hXY:X=Qwr Y:=by rw[<-hX,Qjg,hY]
 have JW:∀l,Y=.ok l->1<=l.length/\l.length<=4/\∀z∈l,Q48 l.length z.2:=fun l h=>Qoq (by rw[hY];exact h);have H:=Xh4 Q2 hXY JW hT;clear Q2 hXY JW hT hX hY
 go_enter Tryz.func49,Tryz.ntmps49
 cases Y with
 |error q=>
  have t7:X=.error (q,5):=(Xo1 H);have HX:=Ua t7;clear t7
  go_wp2_with (go_at_call_of 84 (Value.string s);refine (Xo0 H).mono ?_;rintro r w1 ⟨a1,n1,c1,p1,b1,rfl,A0,rfl,rfl⟩;have H1:=Ua A0;clear A0)
  exact ⟨rfl,.tuple #[.slice none 0 0,.int .i64 (q:Int),.int .i64 5],by simp[results,go_sem],Q9s.err HX.out H1.out⟩
 |ok l=>
  obtain ⟨k,hk⟩:∃k,l.length=k:=⟨_,rfl⟩;obtain ⟨J2,R5,X9⟩:=(Xo2 H) l rfl;have hXl:X=Q30 l.length l []:=(Xo1 H);rw[hk] at J2 R5 X9 hXl;have HX:=Xh3 hXl X9 hk;clear hXl X9 hk
  go_wp2_with (go_at_call_of 84 (Value.string s);refine (Xo0 H).mono ?_;rintro r w1 ⟨a1,n1,c1,p1,b1,rfl,A0,rfl,g1,rfl,W8,A5,C2,A2,XT⟩;obtain rfl:n1=k:=A5.trans (Xe2 HX);have H1:=Xh5 A0 W8 C2 A2 XT;clear A0 W8 A5 C2 A2 XT)
  rename World=>wl
  go_loopw [8,24] (fun s8 s24 wr=>Qsw wl n1 l s8 s24 wr) (fun _ iv _=>n1-(intOf iv).toNat)
  case atStart=>exact ⟨0,none,0,[],[],rfl,rfl,Ut _,rfl,Q88.nil_ _ _ _ _ _,(fun j ms h=>by simp at h),rfl,Uc _ _⟩
  case round=>
   obtain ⟨i,a1,c1,Fv,vs,rfl,rfl,hi,hFl,A1,R1,G4,M0⟩:=hrel
   by_cases E0:i<l.length
   ·have K0:=(Xe2 HX);have F0:(i:Int)<(n1:Int):=(by omega);obtain ⟨px,hpx⟩:∃px,l[i]?=some px:=⟨_,Ub E0⟩;obtain ⟨p,x⟩:=px;obtain ⟨q0,u,q1,hu⟩:=(Xe4 H1).get hpx;obtain ⟨t0,u0,rfl⟩:=hu.face;rw[UV] at q0 q1;have q0:=(M0.cell (p:=⟨g1,i*2,none⟩) (Xo1 H1)).trans q0;have q1:=(M0.cell (p:=⟨g1,i*2+1,none⟩) (Xo1 H1)).trans q1;have hgx:Q48 n1 x:=(Xo1 HX) _ (Ug hpx);have Y2:Bw wr (wr.alloc (.cells #[.int .i64 (p:Int),.iface t0 u0] 121)):=Ba;have hh:=Uo wr (.cells #[.int .i64 (p:Int),.iface t0 u0] 121);have m0:(wr.alloc (.cells #[.int .i64 (p:Int),.iface t0 u0] 121)).cell? ⟨wr.heap.size,0,none⟩=some (.int .i64 (p:Int)):=(by rw[Uw _ _ _ _ _ _ hh];rfl);have m1:(wr.alloc (.cells #[.int .i64 (p:Int),.iface t0 u0] 121)).cell? ⟨wr.heap.size,1,none⟩=some (.iface t0 u0):=(by rw[Uw _ _ _ _ _ _ hh];rfl);have K1:=Below.next0 M0 Y2;have N0:=Below.next0 (Xo0 H1) K1;have G5:=Qna n1 J2 R5 x hgx _ _ (hu.step' K1) ((Xe3 H).step N0);obtain ⟨Z,hZ⟩:∃Z,Q2b n1 x=Z:=⟨_,rfl⟩;rw[hZ] at G5;have K5:=Q0p wr (.cells #[.int .i64 (p:Int),.iface t0 u0] 121);have heq2:=G4;rw[Qgv hpx,Q30,hZ] at heq2;have HR:=Xh11 hFl A1 R1 heq2 M0 K1 N0 G5 K5 Y2 hZ;clear hFl A1 R1 G4 heq2 M0 K1 N0 G5 K5 Y2 hgx hu hpx hh hZ;cases Z with
    |error er=>
     have Jj:(er==0)=false:=beq_eq_false_iff_ne.2 (Q5k n1 x er (Xe10 HR));have t7:X=.error (p,er):=(by rw[(Xo0 HX),(Xo3 HR)]);have HX5:=Ua t7;clear t7
     go_wp2_with (go_at_call_of 85 (Value.agg #[.int .i64 (n1:Int)]);refine (Xo7 HR).mono ?_;rintro r w3 ⟨I0,a3,l3,c3,rfl⟩;(have m0:=(I0.cell (p:=⟨wr.heap.size,0,none⟩) (Xo8 HR)).trans m0);have H3:=Ua I0;clear I0)
     go_quiet (fail)
     go_wp2_with fail
     exact ⟨rfl,.tuple #[.slice none 0 0,.int .i64 (p:Int),.int .i64 er],by simp[results,go_sem],Q9s.err HX5.out (Below.drewN' (Below.next0 (Xo6 HR) H3.out) _)⟩
    |ok P=>
     go_upto_region 11 with (go_at_call_of 85 (Value.agg #[.int .i64 (n1:Int)]);refine (Xo7 HR).mono ?_;rintro r w3 ⟨I0,a3,l3,c3,ms3,rfl,Qs,Y8,M7⟩;have H3:=Xh4 I0 Qs Y8 M7;clear I0 Qs Y8 M7)
     obtain ⟨O2,E2,I2,X1⟩:=HI.out;have Ka:=Below.next0 (Xo9 HR) (Xo0 H3);have Xt:=Below.next0 (Xo5 HR) (Xo0 H3);have JP:=(Xo1 HR).step Ka;have Zw:=Xt.alloc Xt.size (.cells #[.slice a3 l3 c3] 42);obtain ⟨g6,c6,w6,D7,O3,C3,z5⟩:=Q25 (P:=Tryz.prog) Sl (w3.alloc (.cells #[.slice a3 l3 c3] 42)) 22 22 42 i0 _ 1 24 Tryz.underlying22 O2 E2 I2 X1 rfl (by intro u hu;simp[Value.cells] at hu;subst hu;exact ⟨_,_,_,rfl⟩) wl.heap.size Zw.size a1 i c1 vs (JP.step (Ba)) w3.heap.size 1 1 [.slice a3 l3 c3] rfl (TR (cs:= #[.slice a3 l3 c3]) (Uo _ _)) (by simp[Value.oneCell']) (by intro u hu;simp at hu;subst hu;exact ⟨_,_,_,rfl⟩) (by decide) (by omega) (by decide) (by decide);have HV:=Xh7 Ka Xt JP Zw O3 C3 z5;clear Ka Xt JP Zw O3 C3 z5 O2 E2 I2 X1
     go_wp2_with (at_builtin;refine Q0j rfl (.tmp 42) (.tmp 44) 22 22 rfl _ _ rfl rfl _ _ D7 ?_)
     obtain ⟨Ka,Xt,JP,Zw,O3,C3,z5⟩:=HV.out;have R9:=JP.step ((Uc _ _).alloc (Uf _) (.cells #[.slice a3 l3 c3] 42));have F4:Bw wl w6:=Zw.trans ⟨C3.os,C3.tape,C3.output,C3.size,fun z hz=>C3.block z (Ue hz Zw.size) (fun e=>by
      have:=R9.1.row_le z e.symm;omega)⟩
     have Vs:∀{a:OA} {n c:Nat} {ms:List Q00},Q0e w3 a n c ms->Q0e w6 a n c ms:=fun h=>(h.step ((Uc _ _).alloc (Uf _) (.cells #[.slice a3 l3 c3] 42))).kept _ C3 R9.sl;refine ⟨⟨i+1,_,c6,Fv++[ms3],vs++[.slice a3 l3 c3],rfl,congrArg (Value.int .i64) (by omega),E0,by rw[Uh,(Xo0 HR)];rfl,O3,fun j ms hj=>?_,?_,F4⟩,by simp only[intOf];omega⟩
     ·have ZD:vs.length=i:=by have:=(Xo1 HR).1.len;omega
      by_cases hji:j<i
      ·rw[TS (by rw[(Xo0 HR)];exact hji)] at hj;obtain ⟨p',n',d',g1',g2',g3'⟩:=(Xo2 HR) j ms hj;exact ⟨p',n',d',by rw[TS (by omega)];exact g1',Vs (g2'.step Ka),g3'⟩
      ·rw[TI (by rw[(Xo0 HR)];omega),(Xo0 HR)] at hj;have hj0:j-i=0:=by
        have:=(Ui.1 hj).1;simp at this;omega
       rw[hj0] at hj;simp only[US,Up] at hj;subst hj;exact ⟨a3,l3,c3,by rw[TI (by omega),ZD,hj0];rfl,Vs (Xo1 H3),(Xe3 H3)⟩
     ·rw[(Xo3 HR),UZ,<-(Xo2 H3)];rfl
   ·have K0:=(Xe2 HX);have F0:¬((i:Int)<(n1:Int)):=(by omega);have U5:i=l.length:=(by omega);rw[U5,List.drop_length,Q30] at G4;have HS:=Xh5 hFl A1 R1 G4 M0;have QA:i=n1:=(by omega);have HN:=Ua QA;clear QA;clear hFl A1 R1 G4 M0 U5 K0
    go_wp2_with fail
    refine ⟨rfl,.tuple #[.slice a1 i c1,.int .i64 0,.int .i64 0],by simp[results,go_sem],⟨Below.next0 (Xo0 H1) (Xe4 HS),?_⟩,fun b o n c p e h=>?_⟩
    rotate_left
    ·simp only[Ending.returned.injEq,Value.tuple.injEq] at h;have h1:=congrArg (fun z=>z[0]?) h;simp at h1;obtain ⟨rfl,_,_⟩:=h1;have h2:=(Xo0 H1).size;rcases (Xo1 HS).1.form with ⟨h3,_⟩|⟨g,cur,h3,h4,_⟩
     ·cases h3
     ·cases h3;omega
    rw[(Xo0 HX),(Xo3 HS)];refine ⟨a1,i,c1,Fv,rfl,Qsw.done (Xo0 HS) (Xo1 HS) (Xo2 HS),rfl,?_⟩;rw[Q1w,(Xo0 HS),HN.out];refine ⟨J2,R5,fun ms hm=>?_⟩;obtain ⟨j,hj,rfl⟩:=List.getElem_of_mem hm;obtain ⟨_,_,_,_,_,h⟩:=(Xo2 HS) j _ (Ub hj);exact h
end Go.Proofs.YtidojbkhlenahaaGreatDoor
namespace Go.Proofs.YtidojbkhlenahaaGreatDoor
open Go.RowKit Go.Shelf Go.Sort Go.Lib
theorem below_grow {w:World} (k:Nat) (os:Array Obj):Bw w (grow (w.drewN k) os):=
 ⟨rfl,rfl,rfl,by
   show w.heap.size<=(w.heap++os).size
   simp,fun g hg=>heap_grow_old w k os g hg⟩
theorem Qxy (u:Nat) (ZI:u<18446744073709551616) (w:World) (O6:Lib.TabIs Tryz.prog w "internal/strconv.uint64pow10" .u64 Lib.pow10Tab):
 Calls Tryz.prog 160 #[.int .u64 (u:Int),.int .i64 10] w fun e w'=>e=.returned (.string ⟨(Lib.decDigits u).toArray⟩)/\Bw w w':=by
 by_cases hi:u<100
 ·have hiI:(u:Int)<100:=by omega
  have C4:=fun W=>Tryz.J18 u hi W
  go_enter Tryz.func160,Tryz.ntmps160
  go_wp2_with (refine (C4 _).mono ?_;rintro e w' ⟨rfl,rfl⟩)
  go_ret;exact ⟨rfl,Uc _ _⟩
 ·have hiI:¬(u:Int)<100:=by omega
  have JZ:1<=u:=by omega
  have hnd20:Lib.nDigits u<=20:=by have:=Lib.numDigits_eq u JZ ZI;split at this <;> omega
  have N6:Tryz.prog.arrayLen 202=24:=by kernel_rfl
  have Ks:Tryz.prog.elem 202=5:=by kernel_rfl
  have hsl1:∀W,(Instr.sliceAt 202 (.pointer (some ⟨w.heap.size,0,none⟩)) none (some (.int .i64 (Lib.nDigits u:Int))) none).run Tryz.prog W=.ok (.slice (some ⟨w.heap.size,0,none⟩) (Lib.nDigits u) 24) W:=fun W=>by
   rw[run_sliceAt_array_h W 202 ⟨w.heap.size,0,none⟩ (by kernel_rfl) .i64 (Lib.nDigits u:Int) (by omega) (by rw[N6];omega)]
   go_simp
   try omega
  have hH0:=Lib.holds_zero0 w 202 (Lib.nDigits u) (by omega);have Yo:=Tryz.J1e w.heap.size 0 24 u (Array.replicate (Lib.nDigits u) 0) (w.alloc (.cells Lib.zeros24 202)) hH0 (by rw[Array.size_replicate];exact Lib.lt_pow_nDigits u) ZI (by rw[Array.size_replicate];omega);rw[Array.size_replicate] at Yo;have S2:=Tryz.J1b u JZ ZI (w.alloc (.cells Lib.zeros24 202)) (Lib.tabIs_alloc O6 _);have HH0:=Ua hH0;clear hH0 N6 Ks
  go_enter Tryz.func160,Tryz.ntmps160
  go_wp2_with (first
   |(refine S2.mono ?_;rintro e w' ⟨rfl,rfl⟩)
   |(refine Yo.mono ?_;rintro e w' ⟨rfl,k,v',dk,rfl,hF⟩;
     have QZ:(convert 55 9 (.slice (some ⟨w.heap.size,0,none⟩) (Lib.nDigits u) 24)).run Tryz.prog ((putRow (fun (b:UInt8)=>Value.int .u8 (b.toNat:Int)) (w.alloc (.cells Lib.zeros24 202)) w.heap.size 0 dk).drewN k)=.ok (.string ⟨(Lib.decDigits u).toArray⟩) ((putRow (fun (b:UInt8)=>Value.int .u8 (b.toNat:Int)) (w.alloc (.cells Lib.zeros24 202)) w.heap.size 0 dk).drewN k):=by {
      have h:=run_convert_bytes_back (P:=Tryz.prog) ((putRow (fun (b:UInt8)=>Value.int .u8 (b.toNat:Int)) (w.alloc (.cells Lib.zeros24 202)) w.heap.size 0 dk).drewN k) 55 9 5 ⟨w.heap.size,0,none⟩ 24 (Lib.decDigits u) (by kernel_rfl) (by kernel_rfl) (by kernel_rfl) (fun j hj=>by
       rw[Lib.row_is_numeral hF j hj,Lib.add_plain,World.cell?_drewN];exact cell?_putRow (fun (b:UInt8)=>Value.int .u8 (b.toNat:Int)) _ w.heap.size 0 _ dk HH0.out (by rw[hF.size,Array.size_replicate]) j (by rw[hF.size];rw[Lib.decDigits_length] at hj;exact hj))
      rw[Lib.decDigits_length] at h;exact h };
     obtain ⟨os,eo⟩:=Lib.fin_at w (.cells Lib.zeros24 202) dk k 0;have HEO:=Xh2 eo hF;clear eo hF Yo S2;generalize ((putRow (fun (b:UInt8)=>Value.int .u8 (b.toNat:Int)) (w.alloc (.cells Lib.zeros24 202)) w.heap.size 0 dk).drewN k)=W4 at*))
  go_ret;refine ⟨rfl,?_⟩;rw[(Xo0 HEO)];exact below_grow k os
theorem Qc0 (u:Nat) (ZI:u<18446744073709551616) (w:World) (O6:Lib.TabIs Tryz.prog w "internal/strconv.uint64pow10" .u64 Lib.pow10Tab):
 Calls Tryz.prog 110 #[.int .u64 (u:Int),.int .i64 10] w fun e w'=>e=.returned (.string ⟨(Lib.decDigits u).toArray⟩)/\Bw w w':=by
 have h:=Qxy u ZI w O6
 go_enter Tryz.func110,Tryz.ntmps110
 go_wp2_with (refine h.mono ?_;rintro e w1 ⟨rfl,hb⟩;have HB:=Ua hb;clear hb)
 go_ret;exact ⟨rfl,HB.out⟩
end Go.Proofs.YtidojbkhlenahaaGreatDoor
namespace Go.Proofs.YtidojbkhlenahaaGreatDoor
open Go.RowKit
theorem Qb6:(Tryz.prog.info? 57).map (·.size)=some 2:=by kernel_rfl
theorem Qjh:liesAt Tryz.prog Tryz.prog.depth 57 (2 / Tryz.prog.cellsOf 57) 0 57 1=true:=by kernel_rfl
abbrev Q3m (B b:Nat) (p:Value) (l:LU) (w:World):Prop:=Lib.BuilderAt 57 5 B b p (Lib.byteCells l) w
theorem Qji (b:Nat) (w:World) (h0:w.cell? ⟨b,0,none⟩=some (.pointer (some ⟨b,0,none⟩))):
 Calls Tryz.prog 65 #[.pointer (some ⟨b,0,none⟩)] w fun e w'=>e=.returned (.tuple #[])/\w=w':=by
 obtain ⟨j,hj,_⟩:=Option.map_eq_some_iff.1 Qb6
 go_enter Tryz.func65,Tryz.ntmps65
 go_wp2_with fail
 rw[Lib.run_neq_ptr_same w _ Tryz.underlying54 hj]
 go_wp2_with fail
 go_end0
 exact ⟨rfl,rfl⟩
theorem Qfj (b:Nat) (w:World) (h0:w.cell? ⟨b,0,none⟩=some (.pointer none)) (QL:w.shape? b=some (57,2)) (hfz:w.frozen? ⟨b,0,none⟩=false):
 Calls Tryz.prog 65 #[.pointer (some ⟨b,0,none⟩)] w fun e w'=>e=.returned (.tuple #[])/\w'=w.setCell ⟨b,0,none⟩ (.pointer (some ⟨b,0,none⟩)):=by
 obtain ⟨j,hj,hjs⟩:=Option.map_eq_some_iff.1 Qb6
 go_enter Tryz.func65,Tryz.ntmps65
 go_wp2_with fail
 rw[Lib.run_to_unsafe w ⟨b,0,none⟩ Tryz.underlying54 Tryz.underlying142 hj (by rw[hjs];decide) QL (Nat.zero_lt_succ 1)];simp only[Result.andThen];rw[Oper.upon_value]
 go_wp2_with fail
 rw[run_callFunc_extern Tryz.func106 (by kernel_rfl) (by kernel_rfl) (by kernel_rfl) (e:=Extern.AbiNoEscape.same) (by kernel_rfl)];rw[Lib.run_noEscape];simp only[Result.andThen];rw[Oper.upon_value]
 go_wp2_with fail
 rw[Lib.run_from_unsafe w ⟨b,0,none⟩ Tryz.underlying142 Tryz.underlying54 hj QL Qjh];simp only[Result.andThen];rw[Oper.upon_value]
 go_wp2_with fail
 go_end0
 exact ⟨rfl,rfl⟩
theorem Qvq (B b:Nat) (l:LU) (w:World) (h:Lib.IsBuilder 57 5 B b (Lib.byteCells l) w):
 Calls Tryz.prog 65 #[.pointer (some ⟨b,0,none⟩)] w fun e w'=>e=.returned (.tuple #[])/\Q3m B b (.pointer (some ⟨b,0,none⟩)) l w'/\Below B w w'/\w'.heap.size=w.heap.size:=by
 rcases h with h|h
 ·refine (Qfj b w h.cell0 h.shape h.frozen0).mono ?_;rintro e w' ⟨rfl,rfl⟩;exact ⟨rfl,h.used _,(Uc B w).setCell (p:=⟨b,0,none⟩) h.1 _,by simp⟩
 ·refine (Qji b w h.cell0).mono ?_;rintro e w' ⟨rfl,rfl⟩;exact ⟨rfl,h,Uc B _,rfl⟩
theorem Q9t (a b:LU):Lib.byteCells (a++b)=Lib.byteCells a++Lib.byteCells b:=by simp[Lib.byteCells]
theorem Qjj (B b:Nat) (l t:LU) (w:World) (h:Lib.IsBuilder 57 5 B b (Lib.byteCells l) w) (K0:l.length+t.length<=140737488355328) (hBw:B<=w.heap.size):
 Calls Tryz.prog 35 #[.pointer (some ⟨b,0,none⟩),sv t] w fun e w'=>e=.returned (.tuple #[.int .i64 (t.length:Int),.nilIface])/\Q3m B b (.pointer (some ⟨b,0,none⟩)) (l++t) w'/\Below B w w':=by
 obtain ⟨i0,hi,E2,I2,X1⟩:=Xbq Qq3;have HI:=Ua h;clear h
 go_enter Tryz.func35,Tryz.ntmps35
 go_wp2_with (refine (Qvq B b l _ HI.out).mono ?_)
 rintro e w1 ⟨rfl,h1,A0,Y1⟩;obtain ⟨hB,v,A6,R3,P0⟩:=h1;have Kf:B<=w1.heap.size:=by omega
 have HSZ:=Ua Y1;clear Y1;have c0:w1.cell? ⟨b,0,none⟩=some (.pointer (some ⟨b,0,none⟩)):=by rw[Lib.cell_of_heap A6];rfl
 have c1:w1.cell? ⟨b,1,none⟩=some v:=by rw[Lib.cell_of_heap A6];rfl
 have E0:b<w1.heap.size:=(Uq.1 A6).1;have HBK:=Ua A6;have G2:(Lib.byteCells l).length+(⟨t.toArray⟩:ByteArray).size<=140737488355328:=by rw[Lib.byteCells_length];exact K0
 have R2:(Lib.byteCells l).length+(⟨t.toArray⟩:ByteArray).size<=maxLen:=by unfold maxLen;omega
 clear A6
 go_wp2_with (at_builtin;refine Lib.wpList_append_own_string _ rfl _ _ 55 9 rfl B 5 i0 Tryz.underlying55 Tryz.underlying9 hi E2 I2 X1 _ _ _ rfl R3 ⟨t.toArray⟩ rfl R2 G2 Kf ?_)
 intro v' w2 p6 D3 _;have D0:w2.heap[b]?=some (.cells #[.pointer (some ⟨b,0,none⟩),v] 57 (0,0)):=by
  rw[D3.block b E0 (fun e=>P0 e.symm)];exact HBK.out
 have d0:w2.cell? ⟨b,0,none⟩=some (.pointer (some ⟨b,0,none⟩)):=by rw[Lib.cell_of_heap D0];rfl
 have d1:w2.cell? ⟨b,1,none⟩=some v:=by rw[Lib.cell_of_heap D0];rfl
 have f1:w2.frozen? ⟨b,1,none⟩=false:=Lib.frozen_of_heap D0 1;obtain ⟨ao,n',cap,rfl⟩:∃ao n' cap,v'=.slice ao n' cap:=by
  rcases p6.2 with ⟨hv,_⟩|⟨g,cap,cur,hv,_⟩
  ·exact ⟨_,_,_,hv⟩
  ·exact ⟨_,_,_,hv⟩
 have HE:=Xh4 D0 p6 D3 A0;clear D0 p6 D3 A0 G2 R2
 go_wp2_with fail
 go_ret2
 obtain ⟨D0,p6,D3,A0⟩:=HE.out;refine ⟨rfl,?_,?_⟩
 ·refine Lib.BuilderAt.put (T:=57) (e:=5) hB D0 (bs':=Lib.byteCells (l++t)) ?_ (by decide);rw[Q9t];have e1:Lib.strCells ⟨t.toArray⟩=Lib.byteCells t:=rfl;rw[<-e1,Uh,Lib.strCells_length];exact p6
 ·exact (A0.grown D3 (by omega) (fun k hk=>(R3.lt k hk).1)).setCell (p:=⟨b,1,none⟩) hB _
theorem Q3m.call {B b:Nat} {p:Value} {l:LU} {w w':World} (h:Q3m B b p l w) (hb:Bw w w'):Q3m B b p l w':=by
 obtain ⟨hB,v,A6,R3,P0⟩:=h;refine ⟨hB,v,(hb.block _ (Uq.1 A6).1).trans A6,⟨R3.1,?_⟩,P0⟩;rcases R3.2 with h2|⟨g,cap,cur,hv,hg,hh,hr⟩
 ·exact .inl h2
 ·exact .inr ⟨g,cap,cur,hv,hg,(hb.block g (Uq.1 hh).1).trans hh,hr⟩
def Q60 (B b:Nat) (l:LU) (w:World):Prop:=Lib.IsBuilder 57 5 B b (Lib.byteCells l) w
theorem Q60.call {B b:Nat} {l:LU} {w w':World} (h:Q60 B b l w) (hb:Bw w w'):Q60 B b l w':=by
 rcases h with h|h
 ·exact .inl (Q3m.call h hb)
 ·exact .inr (Q3m.call h hb)
theorem Q60.new (B:Nat) (w:World) (hB:B<=w.heap.size):Q60 B w.heap.size [] (w.alloc (.cells #[.pointer none,.slice none 0 0] 57)):=
 .inl ⟨hB,_,Uo _ _,⟨rfl,.inl ⟨rfl,rfl⟩⟩,by simp[Value.ownBlock]⟩
end Go.Proofs.YtidojbkhlenahaaGreatDoor
