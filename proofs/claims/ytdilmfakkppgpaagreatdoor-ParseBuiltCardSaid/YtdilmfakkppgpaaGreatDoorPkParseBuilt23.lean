/- Part 23 of the proof of LawParseBuilt: RdrH, Turned, Maker, MakerS. Condition: as each theorem says; none at the end. -/
import Derived.Test.YtdilmfakkppgpaaGreatDoorPkParseBuilt22
set_option maxRecDepth 100000
set_option maxHeartbeats 16000000
namespace Go.Proofs.YtdilmfakkppgpaaGreatDoor
open Go.RowKit WordsM DecM
theorem Qrj {i:Nat} (h:i<9):(Q3t i).length=6:=by rw[Q3t,Q2d (by omega)];rfl
theorem Qmd (i:Nat) (hi:i<9) (w:World):Calls Tryz.prog 32 #[.int .i64 (i:Int)] w fun e w'=>e=.returned (.string ⟨(Q3t i).toArray⟩)/\w=w':=by
 have Q2:IntKind.i64.wrap ((i:Int)+1)=(i:Int)+1:=by rw[Ut];omega
 have M7:=Tryz.J0b (i+1) (by omega) w;rw[show ((i+1:Nat):Int)=(i:Int)+1 by omega] at M7;obtain ⟨c,hc⟩:∃c,Lib.decDigits (i+1)=[c]:=⟨_,Q2d (by omega)⟩;rw[hc] at M7;have H:=Xh2 M7 hc;clear M7 hc
 go_enter Tryz.func32,Tryz.ntmps32
 go_wp2_with fail
 refine (Xo0 H).mono ?_;rintro r w1 ⟨rfl,rfl⟩
 go_wp2_with fail
 go_ret;refine ⟨?_,rfl⟩;rw[Q3t,show dec (i+1)=[c] from (Xe1 H)];rfl
def Qub:List (Nat × Ex)->LV->LV
 |(p,_)::r,u::s=>.int .i64 (p:Int)::u::Qub r s
 |_,_=>[]
theorem Qhz (p:Nat) (x:Ex) (u:Value):∀(acc:List (Nat × Ex)) (us:LV),acc.length=us.length->Qub (acc++[(p,x)]) (us++[u])=Qub acc us++[.int .i64 (p:Int),u]
 |[],[],_=>rfl
 |(q,y)::r,v::s,h=>by
  rw[TD,TD,Qub,Qub,Qhz p x u r s (by simpa using h)];rfl
 |[],_::_,h=>by simp at h
 |_::_,[],h=>by simp at h
def Q5i (w:World) (g:Nat) (o:Nat):List (Nat × Ex)->Prop
 |[]=>True
 |(p,x)::r=>w.cell? ⟨g,o,none⟩=some (.int .i64 (p:Int))/\(∃u,w.cell? ⟨g,o+1,none⟩=some u/\Q2v (fun _=>False) w x u)/\Q5i w g (o+2) r
theorem Q5i.step {w w':World} {g:Nat} (hg:g<w.heap.size) (hb:Bw w w'):∀{l:List (Nat × Ex)} {o:Nat},Q5i w g o l->Q5i w' g o l
 |[],_,_=>trivial
 |(_,_)::_,_,h=>⟨(hb.cell (p:=⟨g,_,none⟩) hg).trans h.1,by obtain ⟨u,h1,h2⟩:=h.2.1;exact ⟨u,(hb.cell (p:=⟨g,_,none⟩) hg).trans h1,h2.step hb⟩,Q5i.step hg hb h.2.2⟩
theorem Qme {fp:Nat->Prop} {w:World} {g:Nat}:∀{l:List (Nat × Ex)} {us:LV} (o:Nat),Q1b fp w (l.map (·.2)) us->(∀j v,(Qub l us)[j]?=some v->w.cell? ⟨g,o+j,none⟩=some v)->Q5i w g o l
 |[],_,_,_,_=>trivial
 |(p,x)::r,u::s,o,h,hc=>by
  refine ⟨by simpa using hc 0 _ rfl,⟨u,hc 1 u rfl,h.1.more fun _ h=>h.elim⟩,Qme (o+2) h.2 fun j v hv=>?_⟩;have:=hc (j+2) v (by simpa[Qub] using hv);rwa[show o+(j+2)=o+2+j by omega] at this
 |_::_,[],_,h,_=>h.elim
def Q5w (w:World) (X:Except Nat (List (Nat × Ex))) (e:Ending) (w':World):Prop:=
 ∃a n c p b,e=.returned (.tuple #[.slice a n c,.int .i64 p,.bool b])/\Bw w w'/\match X with
  | .error q=>b=false/\p=(q:Int)
  | .ok l=>b=true/\∃g,a=some ⟨g,0,none⟩/\g<w'.heap.size/\n=l.length/\n<=c/\c<=maxLen/\Q5i w' g 0 l
theorem Q5w.bad {w w':World} {X:Except Nat (List (Nat × Ex))} {p n c:Nat} {a:OA} (hX:X=.error p) (hb:Bw w w'):Q5w w X (.returned (.tuple #[.slice a n c,.int .i64 (p:Int),.bool false])) w':=
 ⟨a,n,c,(p:Int),false,rfl,hb,by rw[hX];exact ⟨rfl,rfl⟩⟩
theorem Below.drewN' {B:Nat} {w w':World} (h:Below B w w') (k:Nat):Below B w (w'.drewN k):=⟨h.os,h.tape,h.output,h.size,h.block⟩
structure Qi0 (w wr:World) (a:OA) (n c:Nat) (acc:List (Nat × Ex)) (us:LV):Prop where
 row:Row wr (w.heap.size+1) 84 2 a n c (Qub acc us)
 nodes:Q1b (fpR w.heap.size a) wr (acc.map (·.2)) us
 len:acc.length=n
theorem Qed {w:World} {B k:Nat} {T:TypeId} {a:OA} {n c:Nat} {vs:LV} (h:Row w B T k a n c vs) {x:Addr} (hx:a=some x):B<=x.block/\x.block<w.heap.size:=by
 rcases h.form with ⟨h0,_⟩|⟨g,cur,h0,h1,h2,_⟩
 ·rw[h0] at hx;cases hx
 ·rw[h0] at hx;injection hx with hx;subst hx;exact ⟨h1,h2⟩
theorem Q5w.good {w wr:World} {X:Except Nat (List (Nat × Ex))} {p:Int} {n c:Nat} {a:OA} {acc:List (Nat × Ex)} {us:LV} {k:Nat} (h:Qi0 w wr a n c acc us) (hX:X=.ok acc) (hn:n≠0) (hb:Bw w wr):Q5w w X (.returned (.tuple #[.slice a n c,.int .i64 p,.bool true])) (wr.drewN k):=by
 refine ⟨a,n,c,p,true,rfl,⟨hb.os,hb.tape,hb.output,hb.size,hb.block⟩,?_⟩;rw[hX];rcases h.row.form with ⟨_,h0,_⟩|⟨g,cur,rfl,h1,h2,h3,h4,h5,h6,h7⟩
 ·exact absurd h0 hn
 ·refine ⟨rfl,g,rfl,h2,h.len.symm,h4,h5,?_⟩;have hl:Q5i wr g 0 acc:=Qme 0 h.nodes fun j v hv=>by
   obtain ⟨g',e,_,_,hc⟩:=h.row.at_ hv;injection e with e;injection e with e;subst e;rw[UB];exact hc
  exact hl.step h2 (Qat _ _)
theorem Qi0.step {w wr w':World} {a:OA} {n c:Nat} {acc:List (Nat × Ex)} {us:LV} (h:Qi0 w wr a n c acc us) (ht:Q0f (OnR w.heap.size) wr w'):Qi0 w w' a n c acc us:=
 ⟨h.row.turn ht (fun x hx (e:x.block=w.heap.size)=>by have:=Qed h.row hx;omega),h.nodes.turn ht (fun k (hk:k=w.heap.size)=>.inl (Nat.le_of_eq hk)),h.len⟩
theorem Qi0.next {w w3 w4:World} {a:OA} {n c:Nat} {acc:List (Nat × Ex)} {us:LV} {B3:Nat} (h:Qi0 w w3 a n c acc us) (B0:w.heap.size<B3) (hab:∀x,a=some x->x.block<B3) {o:Obj} (m7:(w3.alloc o).grownBy w4 (a.map (·.block))) {a':OA} {cap p:Nat} {x:Ex} {u:Value} (hx:Q2v (·<B3) w3 x u)
 (I0:Row w4 (w.heap.size+1) 84 2 a' (n+1) cap (Qub acc us++[.int .i64 (p:Int),u])) (R1:a'.map (·.block)=a.map (·.block)∨a'.map (·.block)=some (w3.alloc o).heap.size):
 Qi0 w w4 a' (n+1) cap (acc++[(p,x)]) (us++[u]):=by
 have Va:∀k,fpR w.heap.size a' k->fpR w.heap.size a k∨w3.heap.size<=k:=by
  rintro k (hk|⟨y,hy,hk⟩)
  ·exact .inl (.inl hk)
  ·subst hy;rcases R1 with h1|h1
   ·cases a with
    |none=>simp at h1
    |some z=>simp only[UM,Un] at h1;exact .inl (.inr ⟨z,rfl,by rw[<-h1];exact hk⟩)
   ·simp only[UM,Un] at h1;rw[Uo] at h1;exact .inr (by omega)
 have JX:Q0f (fun k=>∃y,a=some y/\y.block=k) w3 w4:=(Q0f.of_below (Ba) _).trans0 (Q0f.of_grown m7 fun r hr _=>by
  cases a with
  |none=>simp at hr
  |some y=>simp only[UM,Un] at hr;exact ⟨y,rfl,hr⟩)
 have hU:∀k,(fpR w.heap.size a k∨fpR w.heap.size a' k)->fpR w.heap.size a k∨w3.heap.size<=k:=fun k hk=>hk.elim .inl (Va k);have hA:∀k,fpR w.heap.size a k->k<B3:=by
  rintro k (hk|⟨y,hy,rfl⟩)
  ·omega
  ·exact hab y hy
 refine ⟨?_,?_,by rw[Uj,h.len];rfl⟩
 ·rw[Qhz _ _ _ _ _ (by have:=h.nodes.len;simpa using this)];exact I0
 ·rw[UP];have p6:=((h.nodes.more hU).turn JX (fun k hk=>.inl (.inr hk))).more (fp':=fpR w.heap.size a') (fun k hk=>.inl (.inr hk));have h1:=((hx.more (fp':=fun k=>fpR w.heap.size a k∨fpR w.heap.size a' k) fun k hk=>(hU k hk).imp (hA k) id).turn JX (fun k hk=>.inl (.inr hk))).more (fp':=fpR w.heap.size a') (fun k hk=>.inl (.inr hk));exact p6.snoc h1
theorem Qhp.form {R:Nat} {s:ByteArray} {m d:Int} {X:Except Nat Nat} {w:World} (h:Qhp R s m d X w):∃(q:Nat) (b:Bool),Q0q w R s (q:Int) m d b/\q<=s.size/\X=if b=true then .error q else .ok q:=by
 unfold Qhp at h;cases X with
 |error q=>exact ⟨q,true,h.1,h.2,rfl⟩
 |ok q=>exact ⟨q,false,h.1,h.2,rfl⟩
theorem Q6p.form {R:Nat} {s:ByteArray} {m d:Int} {r:PR Ex} {w:World} {e:Ending} {w':World} (h:Q6p R s m d r w e w'):∃(t:TypeId) (u:Value) (q:Nat) (b:Bool),e=.returned (.iface t u)/\Q0f (OnR R) w w'/\Q0q w' R s (q:Int) m d b/\q<=s.size/\(b=true->r=.error q)/\(b=false->∃x,r=.ok (x,q)/\Q2v (·<w.heap.size) w' x (.iface t u)):=by
 obtain ⟨t,u,rfl,ht,h2⟩:=h;cases r with
 |error q=>exact ⟨t,u,q,true,rfl,ht,h2.1,h2.2,fun _=>rfl,fun e=>by cases e⟩
 |ok z=>exact ⟨t,u,z.2,false,rfl,ht,h2.2.1,h2.2.2,(fun e=>by cases e),fun _=>⟨z.1,rfl,h2.1⟩⟩
theorem Qny {L:LU} {m n p q1 q2 q4:Nat} {b1 b2 b4:Bool} (h1:Q1h L (Q3t n) p=if b1=true then .error q1 else .ok q1)
 (h2:b2=true->Q4f b1 q1 (Q6d L m 16 q1)=.error q2) (h3:b2=false->∃x,Q4f b1 q1 (Q6d L m 16 q1)=.ok (x,q2))
 (h4:(if b2=true then Except.error (skS L q2 b2) else Q1h L [10] (skS L q2 b2))=if b4=true then Except.error q4 else Except.ok q4):
 (b4=true->Q8i L m n p=.error q4)/\(b4=false->b1=false/\b2=false/\∃x,Q6d L m 16 q1=.ok (x,q2)/\Q8i L m n p=.ok (x,q4)):=by
 unfold Q8i;cases b1 with
 |true=>
  have D0:b2=true:=by
   cases b2 with
   |true=>rfl
   |false=>obtain ⟨x,hx⟩:=h3 rfl;cases hx
  subst D0;have e:=h2 rfl;have e:Except.error q1=(Except.error q2:PR Ex):=e;injection e with e;subst e;rw[h1];simp only[Xa5,skS] at h4⊢;cases b4 with
  |true=>simp only[Xa5] at h4;injection h4 with h4;subst h4;exact ⟨fun _=>rfl,fun e=>by cases e⟩
  |false=>simp at h4
 |false=>
  rw[h1];simp only[Tl,Xaq];have e2:Q4f false q1 (Q6d L m 16 q1)=Q6d L m 16 q1:=rfl;rw[e2] at h2 h3;cases b2 with
  |true=>
   rw[h2 rfl];simp only[Xa5,skS] at h4⊢;cases b4 with
   |true=>simp only[Xa5] at h4;injection h4 with h4;subst h4;exact ⟨fun _=>rfl,fun e=>by cases e⟩
   |false=>simp at h4
  |false=>
   obtain ⟨x,hx⟩:=h3 rfl;rw[hx];simp only[Tl,Xaq,skS,Qra] at h4⊢
   by_cases u9:Q06 L (Q03 L q2)=10
   ·rw[Us u9] at h4⊢;cases b4 with
    |true=>simp at h4
    |false=>simp only[Tl,Xaq] at h4;injection h4 with h4;subst h4;exact ⟨(fun e=>by cases e),fun _=>⟨trivial,trivial,x,rfl,rfl⟩⟩
   ·rw[Uq u9] at h4⊢;cases b4 with
    |true=>simp only[Xa5] at h4;injection h4 with h4;subst h4;exact ⟨fun _=>rfl,fun e=>by cases e⟩
    |false=>simp at h4
theorem Qrk:(Tryz.prog.info? 84).map (fun i=>(i.zero,i.size,i.bytes))=some (some (.agg #[.int .i64 0,.nilIface]),2,24):=by kernel_rfl
def nOf (v:Value):Nat:=match v with| .slice _ n _=>n|_=>0
def Qxr (w:World) (s:ByteArray) (L:LU) (m:Nat) (X:Except Nat (List (Nat × Ex))) (sv:Value) (wr:World):Prop:=
 ∃(p:Nat) (bd:Bool) (a:OA) (n c:Nat),sv=.slice a n c/\n<=5/\Q0q wr w.heap.size s (p:Int) (m:Int) 0 bd/\p<=s.size/\Bw w wr/\
  (bd=true->X=.error p/\0<n)/\(bd=false->n<=4/\∃acc us,Qi0 w wr a n c acc us/\X=if n=0∨p<s.size then Q3c L m (4-n) p acc else .ok acc)
theorem Qrl (s:ByteArray) (w:World) (hs:s.size<=1000000) (hT:Q2n w):
 Calls Tryz.prog 43 #[.string s] w (Q5w w (Q3c s.data.toList (min (s.data.toList.count 10) 4) 4 0 [])):=by
 obtain ⟨i0,O1,P1,K1,J1⟩:=Q0l Qrk;obtain ⟨L,hL⟩:∃L,s.data.toList=L:=⟨_,rfl⟩;have QK:L.length=s.size:=by rw[<-hL];rfl
 have Qm:Calls Tryz.prog 78 #[.string s,.string ⟨#[10]⟩] w fun e w'=>e=.returned (.int .i64 (Lib.countByte s.data.toList 10:Nat))/\w=w':=(Tryz.J0p s 10 w).mono fun _ _ h=>⟨h.1,h.2.symm⟩;obtain ⟨N,hN⟩:∃N:Nat,Lib.countByte s.data.toList 10=N:=⟨_,rfl⟩;rw[hN] at Qm;have hNc:L.count 10=N:=by rw[<-hL];exact hN
 obtain ⟨M,hM⟩:∃M:Nat,min N 4=M:=⟨_,rfl⟩;have Qz:min (N:Int) 4=(M:Int):=by omega
 obtain ⟨X,hX⟩:∃X,Q3c L M 4 0 []=X:=⟨_,rfl⟩;rw[hL,hNc,hM,hX];have T4:Bw w (w.alloc (.cells #[.string s,.int .i64 0,.int .i64 (M:Int),.int .i64 0,.bool false] 118)):=Ba;have X8:Q0q (w.alloc (.cells #[.string s,.int .i64 0,.int .i64 (M:Int),.int .i64 0,.bool false] 118)) w.heap.size s ((0:Nat):Int) (M:Int) 0 false:=by
  have hc:=fun o=>Ux (w.alloc (.cells #[.string s,.int .i64 0,.int .i64 (M:Int),.int .i64 0,.bool false] 118)) w.heap.size o _ _ _ (Ul _ _);have hf:=fun o=>TC (w.alloc (.cells #[.string s,.int .i64 0,.int .i64 (M:Int),.int .i64 0,.bool false] 118)) w.heap.size o _ _ (Ul _ _);exact ⟨(hc 0).trans rfl,(hc 1).trans rfl,(hc 2).trans rfl,(hc 3).trans rfl,(hc 4).trans rfl,hf 0,hf 1,hf 2,hf 3,hf 4,Q0r _ _,fun o ho=>by rw[hc o];exact Xbg (by simpa using ho)⟩
 have H:=Xh8 hL QK hs Qm hX hT T4 X8;clear hL QK hs Qm hN hNc hX hT hM T4 X8
 go_enter Tryz.func43,Tryz.ntmps43
 go_wp2_with (go_at_call_of 78 (Value.string s);refine (Xo3 H).mono ?_;rintro r w1 ⟨rfl,rfl⟩)
 go_loopw [6] (fun sv wr=>Qxr w s L M X sv wr) (fun sv _=>5-nOf sv)
 case atStart=>
  exact ⟨0,false,none,0,0,rfl,by omega,(Xe7 H),Uu _,(Xo6 H),(fun e=>by cases e),fun _=>⟨by omega,[],[],⟨Row.nil_ _ _ _ _,trivial,rfl⟩,by rw[Us (.inl rfl)];exact (Xo4 H).symm⟩⟩
 case round=>
  obtain ⟨p,bd,a,n,c,rfl,hn5,hr,hp,hb,O6,V9⟩:=hrel;obtain ⟨b,ZH⟩:∃b:Bool,(if bd=true then false else decide (n=0∨p<s.size))=b:=⟨_,rfl⟩;have k0:=hr.c0;have k1:=hr.c1;have k4:=hr.c4;have HR:=Xh7 hr hp hb O6 V9 ZH hn5;clear hr hp hb O6 V9 ZH
  go_upto_region 3 with fail
  go_cut [40] (fun v wx=>v=.bool b/\wr=wx)
  case first=>
   have ZH:=(Xo5 HR);have h0n:=(Xo3 HR);cases bd with
   |true=>
    have d8:((n:Int)==0)=false:=(by rw[Ui];have:=(h0n rfl).2;omega);simp only[Xa5] at ZH;subst ZH;clear h0n
    by_cases B0:p<s.size
    ·have E0:(p:Int)<(s.size:Int):=by omega
     go_wp2_with fail
     go_meet;exact ⟨rfl,rfl⟩
    ·have E0:¬(p:Int)<(s.size:Int):=by omega
     go_wp2_with fail
     go_meet;exact ⟨rfl,rfl⟩
   |false=>
    clear h0n;simp only[Tl,Xaq] at ZH
    by_cases B0:p<s.size
    ·have E0:(p:Int)<(s.size:Int):=(by omega);rw[UU (Or.inr B0)] at ZH;subst ZH
     go_wp2_with fail
     go_meet;exact ⟨rfl,rfl⟩
    ·have E0:¬(p:Int)<(s.size:Int):=by omega
     by_cases d8:n=0
     ·rw[UU (Or.inl d8)] at ZH;have YC:((n:Int)==0)=true:=(by rw[d8];rfl);subst ZH;clear d8
      go_wp2_with fail
      go_meet;exact ⟨rfl,rfl⟩
     ·rw[UL (fun h=>h.elim d8 B0)] at ZH;have YC:((n:Int)==0)=false:=(by rw[Ui];omega);subst ZH;clear d8
      go_wp2_with fail
      go_meet;exact ⟨rfl,rfl⟩
  case rest=>
   obtain ⟨rfl,rfl⟩:=hcut;cases b with
   |false=>
    cases bd with
    |true=>
     have hx:=((Xo3 HR) rfl).1;have HX:=Ua hx;clear hx
     go_wp2_with fail
     go_quiet (fail)
     go_wp2_with fail
     exact ⟨rfl,.tuple #[.slice a n c,.int .i64 (p:Int),.bool false],by simp[results,go_sem],Q5w.bad HX.out (Below.drewN' (Xo2 HR) _)⟩
    |false=>
     obtain ⟨JY,acc,us,Z0,hx⟩:=(Xo4 HR) rfl;have hnot:¬(n=0∨p<s.size):=of_decide_eq_false (by have:=(Xo5 HR);simpa using this);rw[Uq hnot] at hx;have HX:=Xh3 Z0 hx hnot;clear Z0 hx hnot JY
     go_wp2_with fail
     go_quiet (fail)
     go_wp2_with fail
     exact ⟨rfl,.tuple #[.slice a n c,.int .i64 (p:Int),.bool true],by simp[results,go_sem],Q5w.good (Xo0 HX) (Xo1 HX) (fun h=>(Xe2 HX) (.inl h)) (Xo2 HR)⟩
   |true=>
    have Ql:bd=false:=by
     have:=(Xo5 HR);cases bd with
     |false=>rfl
     |true=>simp at this
    subst Ql;obtain ⟨JY,acc,us,Z0,hx⟩:=(Xo4 HR) rfl;have YG:n=0∨p<s.size:=Xab (by have:=(Xo5 HR);simpa using this);rw[Us YG] at hx
    by_cases h4:n=4
    ·subst h4;have Qt:X=.error p:=(by rw[hx];rfl);have HX:=Ua Qt;clear hx Qt Z0 YG JY
     go_wp2_with fail
     go_quiet (fail)
     go_wp2_with fail
     exact ⟨rfl,.tuple #[.slice none 0 0,.int .i64 (p:Int),.bool false],by simp[results,go_sem],Q5w.bad HX.out (Below.drewN' (Xo2 HR) _)⟩
    ·have hn4':((n:Int)==4)=false:=(by rw[Ui];omega);have YL:s.size<=281474976710656:=(by have:=(Xo2 H);omega);have T8:=fun W=>Qmd n (by omega) W;have Qy:=fun W (hW:Q0q W w.heap.size s (p:Int) (M:Int) 0 false)=>Q9f hW (Xo1 HR) YL ⟨(Q3t n).toArray⟩ (by show (Q3t n).toArray.size<=_;rw[List.size_toArray,Qrj (by omega)];decide) (by
      have:=Qr2 (i:=n) (by omega);intro c hc e;subst e;exact this (by simpa using hc)) (by rw[Q3t];exact Nat.succ_pos _)
     rw[(Xo0 H)] at Qy;simp only[Tl,Xaq] at Qy;have hTT:∀W1 W,Bw w W1->Q0f (OnR w.heap.size) W1 W->Q2n W:=fun W1 W h1 h2=>(Xo5 H).step (Below.turn h1 h2 h1.size (fun k (hk:k=w.heap.size)=>by omega));have X5:=fun (W:World) (q:Nat) (bd':Bool) (hW:Q0q W w.heap.size s (q:Int) (M:Int) 0 bd') (hq:q<=s.size) (o7:Bw w W)=>Q86 (Xo2 H) 16 W q bd' 0 (by decide) (by decide) hW hq (fun W' h'=>hTT W W' o7 h');rw[(Xo0 H)] at X5;have hsgn:=fun (W:World) (q:Nat) (bd':Bool) (hW:Q0q W w.heap.size s (q:Int) (M:Int) 0 bd') (hq:q<=s.size)=>Q3g hW hq YL;rw[(Xo0 H)] at hsgn;have X2:=fun (W:World) (q:Nat) (bd':Bool) (hW:Q0q W w.heap.size s (q:Int) (M:Int) 0 bd') (hq:q<=s.size)=>Q9f hW hq YL ⟨#[10]⟩ (by decide) (by decide) (by decide);rw[(Xo0 H)] at X2;have HC:=Xh5 T8 Qy X5 hsgn X2;have HX:=Xh4 Z0 hx YG JY;have HI:=Xh4 O1 P1 K1 J1;clear T8 Qy X5 hsgn X2 Z0 hx YG JY YL hTT
     go_upto_region 8 with (first
      |(go_at_call_of 32 (Value.int IntKind.i64 (n:Int));refine ((Xo0 HC) _).mono ?_;rintro r w1 ⟨rfl,rfl⟩)
      |(go_at_call_of 79 (Value.pointer (some ⟨w.heap.size,0,none⟩));refine ((Xo1 HC) _ (Xo0 HR)).mono ?_;rintro r w1 ⟨rfl,Y1,O2⟩;obtain ⟨q1,b1,A1,E9,JF⟩:=O2.form;have H1:=Xh4 Y1 A1 E9 JF;clear Y1 A1 E9 JF O2))
     have C0:Bw w w1:=Below.turn (Xo2 HR) (Xo0 H1) (Xo2 HR).size (fun k (hk:k=w.heap.size)=>by omega);have K0:=Ua C0;clear C0
     go_upto_region 9 with (go_at_call_of 80 (Value.pointer (some ⟨w.heap.size,0,none⟩));refine ((Xo2 HC) w1 q1 b1 (Xo1 H1) (Xo2 H1) K0.out).mono ?_;rintro r w2 hN2;obtain ⟨t,u,q2,b2,rfl,U1,G1,N4,R5,hn2'⟩:=hN2.form;have H2:=Xh5 U1 G1 N4 R5 hn2';clear U1 G1 N4 R5 hn2' hN2)
     go_upto_region 10 with (go_at_call_of 81 (Value.pointer (some ⟨w.heap.size,0,none⟩));refine ((Xo3 HC) w2 q2 b2 (Xo1 H2) (Xo2 H2)).mono ?_;rintro r w3 ⟨rfl,r6,T5⟩;have H3:=Xh2 r6 T5;clear r6 T5)
     have r8:skS L q2 b2<=s.size:=by
      unfold skS
      split
      ·exact (Xo2 H2)
      ·rw[<-(Xo1 H)];exact Q1s (by have:=(Xo1 H);have:=(Xo2 H2);omega)
     have HQ3:=Ua r8;clear r8
     go_upto_region 11 with (go_at_call_of 79 (Value.pointer (some ⟨w.heap.size,0,none⟩));refine ((Xe4 HC) w3 _ b2 (Xo0 H3) HQ3.out).mono ?_;rintro r w4 ⟨rfl,Zb,hf4⟩;obtain ⟨q4,b4,JT,Qr,he4⟩:=hf4.form;have H4:=Xh4 Zb JT Qr he4;clear Zb JT Qr he4 hf4)
     obtain ⟨o6,q5⟩:=Qny (Xe3 H1) (Xo3 H2) (fun e=>((Xe4 H2) e).imp fun _ h=>h.1) (Xe3 H4);have hst4:=((((Xo0 HX).step (Xo0 H1)).step (Xo0 H2)).step (Xe1 H3)).step (Xo0 H4);have ht24:=(Xe1 H3).trans0 (Xo0 H4);have F1:Bw w w4:=Below.turn K0.out ((Xo0 H2).trans0 ht24) K0.out.size (fun k (hk:k=w.heap.size)=>by omega);have p6:n+1<=5:=(by have:=(Xe3 HX);omega);obtain ⟨O1,P1,K1,J1⟩:=HI.out;have D8:=hst4.row;have hsz4:w.heap.size+1<=w4.heap.size:=(Xo1 H4).lt;have HL:=Xh5 o6 q5 hst4 ht24 F1;clear o6 q5 hst4 ht24 F1
     go_wp2_with (at_builtin;refine Q0p rfl (.tmp 63) (.tmp 67) 78 rfl _ _ 84 i0 _ 2 24 Tryz.underlying78 O1 P1 K1 J1 rfl (by decide) (w.heap.size+1) (Uf _ _) (by rw[Uo];omega) a n c _ rfl (D8.alloc _) ⟨w4.heap.size,0,none⟩ 1 1 [.int .i64 (p:Int),.iface t u] rfl rfl (TA (cs:= #[.int .i64 (p:Int),.iface t u]) (Ul w4 _)) (by simp[Value.oneCell']) (n+1) rfl (by omega) (by omega) ?_;intro a5 c5 w5 ZN hg5 M0 hat5;have HO:=Xh4 ZN M0 hg5 hat5;clear ZN hg5 M0 hat5)
     have hB:Bw w w5:=((Xe4 HL).alloc (Xe4 HL).size _).trans ⟨(Xo1 HO).os,(Xo1 HO).tape,(Xo1 HO).output,(Xo1 HO).size,fun k hk=>(Xo1 HO).block k (by omega)⟩;have hst5:=(Xo2 HL);have hab:∀x,a=some x->w.heap.size+1<=x.block/\x.block<w1.heap.size:=fun x hx=>Qed ((Xo0 HX).step (Xo0 H1)).row hx;have XC:Q0f (fun k=>∃y,a=some y/\y.block=k) w4 w5:=(Q0f.of_below (Ba) _).trans0 (Q0f.of_grown (Xo2 HO) fun r hr _=>by
      cases a with
      |none=>simp at hr
      |some y=>simp only[UM,Un] at hr;exact ⟨y,rfl,hr⟩)
     have j6:=(Xo1 H4).keep XC (by rintro ⟨y,hy,e⟩;have:=hab y hy;omega);refine ⟨⟨q4,b4,a5,n+1,c5,rfl,by omega,j6,(Xo2 H4),hB,fun e=>⟨?_,Nat.succ_pos _⟩,fun e=>⟨by have:=(Xe3 HX);omega,?_⟩⟩,by simp only[nOf];omega⟩
     ·rw[(Xo1 HX),show 4-n=(4-(n+1))+1 by omega,Q3c,show acc.length=n from (Xo0 HX).len,(Xo0 HL) e]
     ·obtain ⟨e1,e2,x,U4,J4⟩:=(Xo1 HL) e;subst e1;subst e2;obtain ⟨x',Qt,hxat⟩:=(Xe4 H2) rfl;have Wl:x'=x:=by
       have h':Q6d L M 16 q1=.ok (x',q2):=Qt;rw[U4] at h';injection h' with h';injection h' with h' _;exact h'.symm
      subst Wl;have hx4:=hxat.turn (Xo3 HL) (fun k (hk:k=w.heap.size)=>by subst hk;exact (Xo1 H1).lt);refine ⟨_,_,hst5.next (Xo1 H1).lt (fun x hx=>(hab x hx).2) (Xo2 HO) hx4 (Xo0 HO) (Xe3 HO),?_⟩;rw[(Xo1 HX),show 4-n=(4-(n+1))+1 by omega,Q3c,show acc.length=n from (Xo0 HX).len,J4];simp only[Nat.succ_ne_zero,false_or,(Xo1 H)]
end Go.Proofs.YtdilmfakkppgpaaGreatDoor
namespace Go.Proofs.YtdilmfakkppgpaaGreatDoor
open Go.RowKit WordsM
theorem Qck {P:Program} {ops:Array Oper} {o:Oper} {a:Act} {w:World} {K:Act->World->Prop} {Q:Exit->Act->World->Prop} {E:Prop} (J9:o.guard=none) (s x:Operand) (t1 t2:TypeId) (ho:o.op=.call { callee:=.builtin .append,args:= #[s,x],argTypes:= #[t1,t2] })
 (va vx:Value) (hs:a.eval s=va) (hx:a.eval x=vx) (v:Value) (w':World) (I1:(Builtin.append_ #[t1,t2] o.type #[va,vx]).run P w=.ok v w') (h:K (a.put o.dst v) w'):if Region.wanted o (yielded ops a.tmps)=true then Oper.wp P o a w K Q else E:=by
 rw[Us (by simp[Region.wanted,J9])];unfold Oper.wp execOp;simp only[ho,resolve,invoke,builtin,Sem.run_bind,Xbt,Xa7,List.map_toArray,Xa4,Xbd,hs,hx,I1];exact h
def Qcl (m:Q01):Q01:=⟨!m.neg,m.exp,m.ws,m.es⟩
theorem Qrm (m:Q01):(Qcl m).term=(-m.term.1,m.term.2):=by
 show (Q28 (!m.neg) m.exp m.ws,m.es)=(-Q28 m.neg m.exp m.ws,m.es)
 unfold Q28;rw[Qw1,Qq3]
theorem Qwq {k:Nat} {m:Q01} (h:OkM k m):OkM k (Qcl m):=by
 obtain ⟨⟨h1,h2⟩,h3⟩:=h;refine ⟨⟨h1,?_⟩,h3⟩
 show Q0i (!m.neg) m.exp m.ws
 unfold Q0i at h2⊢;rw[Uq h3] at h2⊢;exact h2
theorem Qad (ms:List Q01):(ms.map Qcl).map Q01.term=Q5l (ms.map Q01.term):=by
 unfold Q5l;rw[List.map_map,List.map_map];exact List.map_congr_left fun m _=>Qrm m
theorem Q7z {k:Nat} {ms:List Q01} (h:Q0z k ms):Q0z k (ms.map Qcl):=by
 obtain ⟨h1,h2,h3,h4,h5⟩:=h;refine ⟨h1,h2,by rw[UQ];exact h3,fun m hm=>?_,?_⟩
 ·obtain ⟨m0,O7,rfl⟩:=Tm.1 hm;exact Qwq (h4 m0 O7)
 ·rw[Xa8];exact h5
def Qrn (w:World) (ms:List Q01) (s3 s8:Value) (wx:World):Prop:=∃(i:Nat) (a:OA) (c:Nat),s3=.slice a i c/\s8=.int .i64 (i:Int)/\i<=ms.length/\Q19 w.heap.size wx a i c ((ms.take i).map Qcl)/\Bw w wx
theorem Qro {w w3 w6:World} {ms:List Q01} {i:Nat} {x:Q01} {a1 a3:OA} {l3 c3 c1 c6 g6 be oe le ce:Nat} {xs:LV} (B0:i<ms.length) (hx:ms[i]?=some x) (J8:WordsIn w3 a3 l3 c3 x.ws) (he:Q0j w (some ⟨be,oe,none⟩) le ce x.es) (L6:be<w.heap.size) (hb:Bw w w3) (E5:Q19 w.heap.size w3 a1 i c1 ((ms.take i).map Qcl))
 (hr:Q3d NoU w3 w.heap.size 44 4 a1 i c1 xs) (M1:Q3d NoU w6 w.heap.size 44 4 (some ⟨g6,0,none⟩) (i+1) c6 (xs++[.bool (!x.neg),.int .i64 x.exp,.slice a3 l3 c3,.slice (some ⟨be,oe,none⟩) le ce]))
 (D1:(w3.alloc (.cells #[.bool (!x.neg),.int .i64 x.exp,.slice a3 l3 c3,.slice (some ⟨be,oe,none⟩) le ce] 44)).grownBy w6 (a1.map (·.block))) (F5:a1=some ⟨g6,0,none⟩∨g6=(w3.alloc (.cells #[.bool (!x.neg),.int .i64 x.exp,.slice a3 l3 c3,.slice (some ⟨be,oe,none⟩) le ce] 44)).heap.size):
 Qrn w ms (.slice (some ⟨g6,0,none⟩) (i+1) c6) (.int .i64 ((i:Int)+1)) w6:=by
 have F1:=hb.alloc hb.size (.cells #[.bool (!x.neg),.int .i64 x.exp,.slice a3 l3 c3,.slice (some ⟨be,oe,none⟩) le ce] 44);refine ⟨i+1,_,c6,rfl,congrArg (Value.int .i64) (by omega),B0,?_,?_⟩
 ·rw[Tc,hx,UP];exact E5.push hr (o:=(.cells #[.bool (!x.neg),.int .i64 x.exp,.slice a3 l3 c3,.slice (some ⟨be,oe,none⟩) le ce] 44)) D1 F5 (m:=Qcl x) M1 rfl J8 (he.step hb) (Ue L6 hb.size) (fun z hz e=>by have:=(E5.lt hz).1;omega)
 ·exact F1.trans ⟨D1.os,D1.tape,D1.output,D1.size,fun z hz=>D1.block z (Ue hz F1.size) (fun e=>by
   cases a1 with
   |none=>simp at e
   |some q=>simp only[UM,Un] at e;have:=(E5.lt rfl).1;omega)⟩
theorem Qnz (a:OA) (n c:Nat) (ms:List Q01) (k:Nat) (w:World) (h:Q08 w a n c ms) (hr:Q0z k ms):
 Calls Tryz.prog 139 #[.slice a n c] w fun r w'=>∃a' c',r=.returned (.slice a' n c')/\Q08 w' a' n c' (ms.map Qcl)/\Bw w w':=by
 have Z2:=h.1;have hn:n<=24:=by have:=hr.2.2.1;omega
 have Z3:=hr.1;obtain ⟨i0,O1,P1,K1,J1⟩:=Q0l Q4g;have HI:=Xh4 O1 P1 K1 J1;have H:=Xh2 h hr;clear h hr O1 P1 K1 J1
 go_enter Tryz.func139,Tryz.ntmps139
 go_wp2_with fail
 go_loopw [3,8] (fun s3 s8 wr=>Qrn w ms s3 s8 wr) (fun _ iv _=>n-(intOf iv).toNat)
 case atStart=>exact ⟨0,none,0,rfl,rfl,Uu _,Q19.nil_ _ _,Uf _ _⟩
 case round=>
  obtain ⟨i,a1,c1,rfl,rfl,hi,P0,Q0⟩:=hrel
  by_cases B0:i<ms.length
  ·have E0:(i:Int)<(n:Int):=(by omega);obtain ⟨x,hx⟩:∃x,ms[i]?=some x:=⟨_,Ub B0⟩;obtain ⟨b0,o0,rfl,C4,R1⟩:∃b o,a=some ⟨b,o,none⟩/\b<w.heap.size/\∀j m,ms[j]?=some m->Q31 w b (o+j*4) m:=by
    rcases (Xo0 H).2.2.2 with h0|h0
    ·rw[h0] at B0;simp at B0
    ·exact h0
   obtain ⟨aw,lw,cw,ae,le,ce,k0,k1,k2,k3,hw,he,U4,J4⟩:=R1 i x hx;have k9:OkM k x:=(Xo4 H) x (Ud hx);obtain ⟨be,oe,rfl,L6⟩:∃be oe,ae=some ⟨be,oe,none⟩/\be<w.heap.size:=by
    rcases he.rd with h0|⟨bb,oo,e,E3,_⟩
    ·exfalso;have:=k9.1.1.1;rw[h0] at this;simp at this;omega
    ·exact ⟨bb,oo,e,E3⟩
   have k0:=(Q0.cell (p:=⟨b0,o0+i*4,none⟩) C4).trans k0;have k1:=(Q0.cell (p:=⟨b0,o0+i*4+1,none⟩) C4).trans k1;have k2:=(Q0.cell (p:=⟨b0,o0+i*4+2,none⟩) C4).trans k2;have k3:=(Q0.cell (p:=⟨b0,o0+i*4+3,none⟩) C4).trans k3;have hX:=Q38.new wr (.bool x.neg) (.int .i64 x.exp) (.slice aw lw cw) (.slice (some ⟨be,oe,none⟩) le ce) 44;have C2:Bw wr (wr.alloc (.cells #[.bool x.neg,.int .i64 x.exp,.slice aw lw cw,.slice (some ⟨be,oe,none⟩) le ce] 44)):=Ba;have Z9:=Q0r wr (.cells #[.bool x.neg,.int .i64 x.exp,.slice aw lw cw,.slice (some ⟨be,oe,none⟩) le ce] 44);have N0:=Below.next0 Q0 C2;have Ql:Bw w (wr.alloc (.cells #[.bool x.neg,.int .i64 x.exp,.slice aw lw cw,.slice (some ⟨be,oe,none⟩) le ce] 44)).drew:=Q6x N0;have P6:=Qnd x.neg x.exp aw lw cw x.ws _ (hw.step Ql) k9.1.2 k9.2;have e0:=hX.c0;have e1:=hX.c1;have e2:=hX.c2;have e3:=hX.c3;have d3:(wr.alloc (.cells #[.bool x.neg,.int .i64 x.exp,.slice aw lw cw,.slice (some ⟨be,oe,none⟩) le ce] 44)).drew.cell? ⟨wr.heap.size,3,none⟩=some (.slice (some ⟨be,oe,none⟩) le ce):=e3;have HS:=Xh12 P0 Q0 hx hw he k9 hX C2 Z9 N0 P6 L6;clear P0 Q0 hx hw he k9 hX C2 Z9 N0 Ql P6 L6 R1 U4 J4
   go_upto_region 5 with fail
   go_region_law (first
    |(refine Q2y (by rfl) 168 #[.agg #[.bool x.neg,.int .i64 x.exp,.slice aw lw cw]] (by simp[go_sem]) ?_
      refine (Xo10 HS).mono ?_;rintro r w3 ⟨a3,l3,c3,rfl,J8,KR⟩;refine ⟨_,rfl,?_⟩;have G0:Below (wr.alloc (.cells #[.bool x.neg,.int .i64 x.exp,.slice aw lw cw,.slice (some ⟨be,oe,none⟩) le ce] 44)).heap.size (wr.alloc (.cells #[.bool x.neg,.int .i64 x.exp,.slice aw lw cw,.slice (some ⟨be,oe,none⟩) le ce] 44)) w3:=⟨KR.os,KR.tape,KR.output,KR.size,KR.block⟩;have m3:=((Xo6 HS).step G0 (Xo8 HS)).c3;obtain ⟨O1,P1,K1,J1⟩:=HI.out;have JL:=Below.next0 (Xo7 HS) G0;have hb3a:=Below.next0 (Xo9 HS) G0;have E5:=(Xo0 HS).step JL;obtain ⟨xs,hr⟩:=E5.row;have hB6:w.heap.size<=(w3.alloc (.cells #[.bool (!x.neg),.int .i64 x.exp,.slice a3 l3 c3,.slice (some ⟨be,oe,none⟩) le ce] 44)).heap.size:=by
       have:=hb3a.size;rw[Uo];omega
      obtain ⟨g6,c6,w6,R3,M1,D1,F5⟩:=Q12 (P:=Tryz.prog) NoU (w3.alloc (.cells #[.bool (!x.neg),.int .i64 x.exp,.slice a3 l3 c3,.slice (some ⟨be,oe,none⟩) le ce] 44)) 25 25 44 i0 _ 4 64 Tryz.underlying25 O1 P1 K1 J1 rfl Q9g w.heap.size hB6 a1 i c1 xs (hr.step (Ba)) w3.heap.size 1 1 [.bool (!x.neg),.int .i64 x.exp,.slice a3 l3 c3,.slice (some ⟨be,oe,none⟩) le ce] rfl (TA (cs:= #[.bool (!x.neg),.int .i64 x.exp,.slice a3 l3 c3,.slice (some ⟨be,oe,none⟩) le ce]) (Ul _ _)) (by simp[Value.oneCell']) (by intro u hu;simp at hu;rcases hu with rfl|rfl|rfl|rfl <;> exact fun _=>by simp[nv]) (by decide) (by omega) (by decide) (by decide);have H3:=Xh8 J8 JL hb3a E5 hr M1 D1 F5;clear J8 KR G0 JL hb3a E5 hr M1 D1 F5 hB6 O1 P1 K1 J1)
    |(refine Qck (by rfl) (.tmp 12) (.tmp 19) 25 25 (by rfl) _ _ (by rfl) (by rfl) _ _ R3 ?_))
   all_goals go_wp2_with fail
   all_goals exact ⟨Qro B0 (Xo2 HS) (Xo0 H3).toWordsIn (Xo4 HS) (Xe11 HS) (Xo2 H3) (Xo3 H3) (Xo4 H3) (Xo5 H3) (Xo6 H3) (Xe7 H3),by simp only[intOf];omega⟩
  ·have E0:¬((i:Int)<(n:Int)):=(by omega);have A6:i=n:=(by omega);rw[show i=ms.length by omega,Ta,show ms.length=n from Z2] at P0;have HS:=Xh2 P0 Q0;subst A6;clear P0 Q0
   go_wp2_with fail
   go_ret;exact ⟨a1,c1,rfl,(Xo0 HS).monos fun m hm=>((Q7z (Xe1 H)).2.2.2.1 m hm).1.2,(Xe1 HS)⟩
theorem Q4h {l:List Q0a} {e:Int} (h:Q24 l=.error e):e≠0:=by
 unfold Q24 at h
 split at h
 ·injection h with h;omega
 ·split at h
  ·injection h with h;omega
  ·cases h
theorem Q80 {a b:List Q0a} {e:Int} (h:Q8d a b=.error e):e≠0:=by
 unfold Q8d at h
 split at h
 ·injection h with h;omega
 ·split at h
  ·injection h with h;omega
  ·exact Q4h h
theorem Qmf {p:List Q0a} {e:Int}:∀{k:Nat},Qe0 p k=.error e->e≠0
 |0,h=>by rw[Qe0] at h;cases h
 |k+1,h=>by
  rw[Qe0] at h;cases hq:Qe0 p k with
  |error x=>rw[hq] at h;injection h with h;subst h;exact Qmf hq
  |ok q=>rw[hq] at h;exact Q80 h
theorem Qee {n:Nat} {p:List Q0a} {k:Nat} {e:Int} (h:Q6a n p k=.error e):e≠0:=by
 cases k with
 |zero=>rw[Q6a] at h;cases h
 |succ k=>exact Qmf h
mutual
theorem Q4i (n:Nat):∀(x:Ex) (e:Int),Q16 n x=.error e->e≠0
 | .num none,e,h=>by rw[Q16] at h;injection h with h;omega
 | .num (some c),e,h=>by rw[Q16] at h;exact Q4h h
 | .var i,e,h=>by rw[Q16] at h;exact Q4h h
 | .sum l,e,h=>by rw[Q16] at h;exact Qcm n l none e h
 | .prod l,e,h=>by rw[Q16] at h;exact Qcn n l none e h
 | .pow b k,e,h=>by
   rw[Q16] at h;cases hb:Q16 n b with
   |error x=>rw[hb] at h;injection h with h;subst h;exact Q4i n b x hb
   |ok p=>rw[hb] at h;exact Qee h
theorem Qcm (n:Nat):∀(l:List (Bool × Ex)) (acc:Option (List Q0a)) (e:Int),Q45 n acc l=.error e->e≠0
 |[],acc,e,h=>by rw[Q45] at h;cases h
 |(b,t)::r,acc,e,h=>by
  rw[Q45] at h;cases ht:Q16 n t with
  |error x=>rw[ht] at h;injection h with h;subst h;exact Q4i n t x ht
  |ok p=>
   rw[ht] at h;cases acc with
   |none=>exact Qcm n r _ e h
   |some q=>
    simp only at h;cases hq:Qfz q (if b then Q5l p else p) with
    |error x=>rw[hq] at h;injection h with h;subst h;exact Q4h hq
    |ok q'=>rw[hq] at h;exact Qcm n r _ e h
theorem Qcn (n:Nat):∀(l:List Ex) (acc:Option (List Q0a)) (e:Int),Q4c n acc l=.error e->e≠0
 |[],acc,e,h=>by rw[Q4c] at h;cases h
 |t::r,acc,e,h=>by
  rw[Q4c] at h;cases ht:Q16 n t with
  |error x=>rw[ht] at h;injection h with h;subst h;exact Q4i n t x ht
  |ok p=>
   rw[ht] at h;cases acc with
   |none=>exact Qcn n r _ e h
   |some q=>
    simp only at h;cases hq:Q8d q p with
    |error x=>rw[hq] at h;injection h with h;subst h;exact Q80 hq
    |ok q'=>rw[hq] at h;exact Qcn n r _ e h
end
theorem Q2v.step' {fp:Nat->Prop} {w w':World} {x:Ex} {v:Value} (h:Q2v fp w x v) (hb:Bw w w'):Q2v fp w' x v:=h.turn (Q0f.of_below hb (fun _=>False)) (fun _ h=>h.elim)
theorem Qb4.get {fp:Nat->Prop} {w:World} {a b:Nat}:∀{l:List (Bool × Ex)} {o i:Nat} {t:Bool} {x:Ex},Qb4 fp w a b o l->l[i]?=some (t,x)->(∃u,w.cell? ⟨a,o+i,none⟩=some u/\Q2v fp w x u)/\w.cell? ⟨b,o+i,none⟩=some (.bool t)
 |[],_,_,_,_,_,hi=>by simp at hi
 |(t0,x0)::r,o,i,t,x,h,hi=>by
  rw[Qb4] at h;cases i with
  |zero=>
   simp only[UI,Un,Xbw] at hi;obtain ⟨rfl,rfl⟩:=hi;exact ⟨h.1,h.2.1⟩
  |succ i=>
   have:=Qb4.get (i:=i) h.2.2 (by simpa using hi);rwa[show o+1+i=o+(i+1) by omega] at this
theorem Qa8.get {fp:Nat->Prop} {w:World} {a:Nat}:∀{l:List Ex} {o i:Nat} {x:Ex},Qa8 fp w a o l->l[i]?=some x->∃u,w.cell? ⟨a,o+i,none⟩=some u/\Q2v fp w x u
 |[],_,_,_,_,hi=>by simp at hi
 |x0::r,o,i,x,h,hi=>by
  rw[Qa8] at h;cases i with
  |zero=>
   simp only[UI,Un] at hi;subst hi;exact h.1
  |succ i=>
   have:=Qa8.get (i:=i) h.2 (by simpa using hi);rwa[show o+1+i=o+(i+1) by omega] at this
theorem Q2v.face {fp:Nat->Prop} {w:World} {x:Ex} {v:Value} (h:Q2v fp w x v):∃t u,v=.iface t u:=by
 cases x with
 |num c=>
  cases c with
  |none=>rw[Q2v] at h;obtain ⟨_,_,_,_,_,rfl⟩:=h;exact ⟨_,_,rfl⟩
  |some c=>rw[Q2v] at h;obtain ⟨_,_,_,_,_,_,rfl,_⟩:=h;exact ⟨_,_,rfl⟩
 |var i=>rw[Q2v] at h;exact ⟨_,_,h⟩
 |sum l=>rw[Q2v] at h;obtain ⟨_,_,_,_,rfl,_⟩:=h;exact ⟨_,_,rfl⟩
 |prod l=>rw[Q2v] at h;obtain ⟨_,_,rfl,_⟩:=h;exact ⟨_,_,rfl⟩
 |pow b k=>rw[Q2v] at h;obtain ⟨_,rfl,_⟩:=h;exact ⟨_,_,rfl⟩
def Q8l (k:Nat) (x:Ex):Prop:=∀(v:Value) (w:World),Q2v (fun _=>False) w x v->Q2n w->Calls Tryz.prog 44 #[.agg #[.int .i64 (k:Int)],v] w (Q0u w k (Q16 k x))
def Qxs (w:World) (k:Nat) (l:List (Bool × Ex)) (s6 s14:Value) (wx:World):Prop:=∃(i:Nat) (acc:Option (List Q0a)) (a:OA) (n c:Nat) (ms:List Q01),s6=.slice a n c/\s14=.int .i64 (i:Int)/\i<=l.length/\(acc=none↔i=0)/\Q08 wx a n c ms/\ms.map Q01.term=acc.getD []/\(acc≠none->Q0z k ms)/\
 Q45 k none l=Q45 k acc (l.drop i)/\Bw w wx
def Qxt (w:World) (k:Nat) (p:List Q0a) (v:Value):Prop:=∃a n c ms,v=.slice a n c/\Q08 w a n c ms/\ms.map Q01.term=p/\Q0z k ms
def Qxu (k:Nat) (r:List (Bool × Ex)):Except Int (List Q0a)->Except Int (List Q0a)
 | .error e=>.error e
 | .ok q=>Q45 k (some q) r
theorem Qo0 {k:Nat} {q p:List Q0a} {t:Bool} {x:Ex} {r:List (Bool × Ex)} (h:Q16 k x=.ok p):Q45 k (some q) ((t,x)::r)=Qxu k r (Qfz q (if t=true then Q5l p else p)):=by
 rw[Q45,h]
 show (match Qfz q (if t=true then Q5l p else p) with| .error e=>(.error e:Except Int (List Q0a))| .ok q'=>Q45 k (some q') r)=_
 cases Qfz q (if t=true then Q5l p else p) <;> rfl
theorem Qbk {α:Type} {l:List α} {i:Nat} {x:α} (h:l[i]?=some x):l.drop i=x::l.drop (i+1):=by
 obtain ⟨B0,rfl⟩:=Um.1 h;exact UC B0
theorem Qi1 (k:Nat) (l:List (Bool × Ex)) (a b c d:Nat) (w:World) (hm:∀(i:Nat) (t:Bool) (x:Ex),l[i]?=some (t,x)->Q8l k x) (C1:l≠[]) (ha:a<w.heap.size) (hb:b<w.heap.size) (hl:l.length<=9223372036854775807) (hx:Qb4 (fun _=>False) w a b 0 l) (hT:Q2n w):
 Calls Tryz.prog 84 #[.agg #[.int .i64 (k:Int)],.agg #[.slice (some ⟨a,0,none⟩) l.length c,.slice (some ⟨b,0,none⟩) l.length d]] w (Q0u w k (Q45 k none l)):=by
 obtain ⟨X,hX⟩:∃X,Q45 k none l=X:=⟨_,rfl⟩;rw[hX];obtain ⟨n,hn⟩:∃n,l.length=n:=⟨_,rfl⟩;rw[hn] at hl⊢;obtain ⟨W0,I3⟩:∃W0,(w.alloc (.cells #[.int .i64 (k:Int)] 87)).alloc (.cells #[.slice (some ⟨a,0,none⟩) n c,.slice (some ⟨b,0,none⟩) n d] 130)=W0:=⟨_,rfl⟩;have B2:(w.alloc (.cells #[.int .i64 (k:Int)] 87)).heap.size=w.heap.size+1:=Uo _ _;have C0:Bw w (w.alloc (.cells #[.int .i64 (k:Int)] 87)):=Ba;have D0:Bw w W0:=by rw[<-I3];exact C0.alloc (by rw[B2];omega) _
 have X6:W0.heap.size=w.heap.size+2:=by rw[<-I3,Uo,B2]
 have k0:W0.cell? ⟨w.heap.size,0,none⟩=some (.int .i64 (k:Int)):=by
  rw[<-I3,UX _ _ _ (by rw[B2];exact TB _),Ux _ _ _ _ _ _ (Ul _ _)];rfl
 have hh:W0.heap[w.heap.size+1]?=some (.cells #[.slice (some ⟨a,0,none⟩) n c,.slice (some ⟨b,0,none⟩) n d] 130 (0,0)):=by
  rw[<-I3,<-B2];exact Ul _ _
 have k1:W0.cell? ⟨w.heap.size+1,0,none⟩=some (.slice (some ⟨a,0,none⟩) n c):=by rw[Ux _ _ _ _ _ _ hh];rfl
 have k2:W0.cell? ⟨w.heap.size+1,1,none⟩=some (.slice (some ⟨b,0,none⟩) n d):=by rw[Ux _ _ _ _ _ _ hh];rfl
 have H:=Xh13 hm C1 ha hb hx hT hX hn D0 X6 k0 k1 k2;clear hm C1 ha hb hx hT hX hn D0 X6 C0 B2 hh
 go_enter Tryz.func84,Tryz.ntmps84
 go_wp2_with fail
 clear I3
 go_loopw [6,14] (fun s6 s14 wr=>Qxs W0 k l s6 s14 wr) (fun _ iv _=>n-(intOf iv).toNat)
 case atStart=>exact ⟨0,none,none,0,0,[],rfl,rfl,Uu _,by simp,⟨rfl,Ug _,by decide,.inl rfl⟩,rfl,(fun h=>absurd rfl h),rfl,Uf _ _⟩
 case round=>
  obtain ⟨i,acc,a1,n1,c1,ms,rfl,rfl,hi,G7,R9,Q1,A2,O4,Q0⟩:=hrel;have R0:=(Xo7 H)
  by_cases B0:i<l.length
  ·have E0:(i:Int)<(n:Int):=(by omega);obtain ⟨tx,r7⟩:∃tx,l[i]?=some tx:=⟨_,Ub B0⟩;obtain ⟨t,x⟩:=tx;obtain ⟨⟨u,q0,hu⟩,q1⟩:=Qb4.get (Xo4 H) r7;have QB:=Below.next0 (Xo8 H) Q0;obtain ⟨t0,u0,rfl⟩:=hu.face;rw[UB] at q0 q1;have q0:=(QB.cell (p:=⟨a,i,none⟩) (Xo2 H)).trans q0;have q1:=(QB.cell (p:=⟨b,i,none⟩) (Xo3 H)).trans q1;have r0:=(Q0.cell (p:=⟨w.heap.size,0,none⟩) (by rw[(Xo9 H)];show w.heap.size<_;omega)).trans k0;have r1:=(Q0.cell (p:=⟨w.heap.size+1,0,none⟩) (by rw[(Xo9 H)];show w.heap.size+1<_;omega)).trans k1;have r2:=(Q0.cell (p:=⟨w.heap.size+1,1,none⟩) (by rw[(Xo9 H)];show w.heap.size+1<_;omega)).trans k2;have C5:=(Xo0 H) i t x r7 _ wr (hu.step' QB) ((Xo5 H).step QB);obtain ⟨Y,hY⟩:∃Y,Q16 k x=Y:=⟨_,rfl⟩;rw[hY] at C5;have M9:=Qbk r7;rw[M9] at O4;have HR:=Xh9 G7 R9 Q1 A2 O4 Q0 C5 hY QB;clear G7 R9 Q1 A2 O4 Q0 C5 hY M9 r7 hu QB;cases Y with
   |error er=>
    have WH:(er==0)=false:=beq_eq_false_iff_ne.2 (Q4i k x er (Xo7 HR));have hX:X=.error er:=by
     rw[<-(Xo6 H),(Xo4 HR),Q45,(Xo7 HR)]
    have HX:=Ua hX;clear hX
    go_wp2_with (go_at_call_of 44 (Value.agg #[.int .i64 (k:Int)]);refine (Xo6 HR).mono ?_;rintro r w3 ⟨G0,a3,l3,c3,rfl⟩;have H3:=Ua G0;clear G0)
    exact ⟨rfl,.tuple #[.slice none 0 0,.int .i64 er],by simp[results,go_sem],Q0u.err HX.out (Below.next0 (Xe8 HR) H3.out)⟩
   |ok p=>
    have HZ:=Ua r0
    go_upto_if 32 with (go_at_call_of 44 (Value.agg #[.int .i64 (k:Int)]);refine (Xo6 HR).mono ?_;rintro r w3 ⟨G0,a3,l3,c3,ms3,rfl,U8,T5,r6⟩;(have r1:=(G0.cell (p:=⟨w.heap.size+1,1,none⟩) (US r2)).trans r2);(have q1:=(G0.cell (p:=⟨b,i,none⟩) (US q1)).trans q1);(have r0:=(G0.cell (p:=⟨w.heap.size,0,none⟩) (US r0)).trans r0);have H3:=Xh4 G0 U8 T5 r6;clear G0 U8 T5 r6)
    obtain ⟨p',o9⟩:∃p',(if t=true then Q5l p else p)=p':=⟨_,rfl⟩;have HP:=Ua o9;clear o9
    go_cut [9] (fun s9 wx=>Qxt wx k p' s9/\Bw wr wx)
    case first=>
     cases t with
     |false=>
      go_wp2_with fail
      go_meet;refine ⟨⟨a3,l3,c3,ms3,rfl,(Xo1 H3),?_,(Xe3 H3)⟩,(Xo0 H3)⟩;rw[<-HP.out];exact (Xo2 H3)
     |true=>
      have htu:=Qnz a3 l3 c3 ms3 k w3 (Xo1 H3) (Xe3 H3);have HT:=Ua htu;clear htu
      go_wp2_with (go_at_call_of 139 (Value.slice a3 l3 c3);refine HT.out.mono ?_;rintro r w4 ⟨a4,c4,rfl,YV,F1⟩;have H4:=Xh2 YV F1;clear YV F1)
      go_meet;refine ⟨⟨a4,l3,c4,_,rfl,(Xo0 H4),?_,Q7z (Xe3 H3)⟩,Below.next0 (Xo0 H3) (Xe1 H4)⟩;rw[<-HP.out,Qad,(Xo2 H3)];rfl
    case rest=>
     obtain ⟨⟨a5,l5,c5,ms5,rfl,JP,p5,j6⟩,M0⟩:=hcut;have r0:=(M0.cell (p:=⟨w.heap.size,0,none⟩) (US HZ.out)).trans HZ.out;have H5:=Xh4 JP p5 j6 M0;clear JP p5 j6 M0
     by_cases O1:i=0
     ·have Wn:¬((0:Int)<(i:Int)):=(by omega);have JS:=(Xo0 HR).2 O1;have HA:=Ua JS;clear JS O1
      go_wp2_with fail
      refine ⟨⟨i+1,some p',a5,l5,c5,ms5,rfl,congrArg (Value.int .i64) (by omega),B0,by simp,(Xo0 H5),(Xo1 H5),fun _=>(Xo2 H5),?_,Below.next0 (Xo5 HR) (Xe3 H5)⟩,by simp only[intOf];omega⟩;rw[(Xo4 HR),Q45,(Xo7 HR),HA.out]
      show Q45 k (some (if t=true then Q5l p else p)) _=_
      rw[HP.out]
     ·have Wn:(0:Int)<(i:Int):=(by omega);obtain ⟨q,hq⟩:∃q,acc=some q:=Option.ne_none_iff_exists'.1 (fun e=>O1 ((Xo0 HR).1 e));have hmq:ms.map Q01.term=q:=(by rw[(Xo2 HR),hq];rfl);have G6:=(Xo3 HR) (by rw[hq];simp);have I6:=Qki a1 n1 c1 ms a5 l5 c5 ms5 k wc ((Xo1 HR).step (Xe3 H5)) (Xo0 H5) G6 (Xo2 H5) ((Xo5 H).step (Below.next0 (Xe8 HR) (Xe3 H5)));rw[hmq,(Xo1 H5)] at I6;obtain ⟨Z,hZ⟩:∃Z,Qfz q p'=Z:=⟨_,rfl⟩;rw[hZ] at I6;have O4:Q45 k none l=Qxu k (l.drop (i+1)) Z:=by
       rw[(Xo4 HR),hq,Qo0 (Xo7 HR),HP.out,hZ]
      have HA:=Xh3 I6 O4 hZ;clear I6 O4 hq hmq G6 O1;clear hZ;cases Z with
      |error er=>
       have WH:(er==0)=false:=beq_eq_false_iff_ne.2 (Q4h (Xe2 HA));have hX:X=.error er:=(by rw[<-(Xo6 H),(Xo1 HA)];rfl);have HX:=Ua hX;clear hX
       go_wp2_with (go_at_call_of 140 (Value.slice a1 n1 c1);refine (Xo0 HA).mono ?_;rintro r w6 ⟨U2,a6,l6,c6,rfl⟩;have H6:=Ua U2;clear U2)
       exact ⟨rfl,.tuple #[.slice none 0 0,.int .i64 er],by simp[results,go_sem],Q0u.err HX.out (Below.next0 (Below.next0 (Xe8 HR) (Xe3 H5)) H6.out)⟩
      |ok q'=>
       go_wp2_with (go_at_call_of 140 (Value.slice a1 n1 c1);refine (Xo0 HA).mono ?_;rintro r w6 ⟨U2,a6,l6,c6,ms6,rfl,KW,Q5,o5⟩;have H6:=Xh4 U2 KW Q5 o5;clear U2 KW Q5 o5)
       exact ⟨⟨i+1,some q',a6,l6,c6,ms6,rfl,congrArg (Value.int .i64) (by omega),B0,by simp,(Xo1 H6),(Xo2 H6),fun _=>(Xe3 H6),(Xo1 HA),Below.next0 (Below.next0 (Xo5 HR) (Xe3 H5)) (Xo0 H6)⟩,by simp only[intOf];omega⟩
  ·have E0:¬((i:Int)<(n:Int)):=(by omega);have A6:i=l.length:=(by omega);have C1:acc≠none:=fun e=>by
    have:=G7.1 e;have:=Xai.2 (Xo1 H);omega
   rw[A6,List.drop_length,Q45] at O4;have HS:=Xh5 R9 Q1 (A2 C1) O4 Q0;clear R9 Q1 A2 O4 Q0 G7 A6 C1 R0
   go_wp2_with fail
   refine ⟨rfl,.tuple #[.slice a1 n1 c1,.int .i64 0],by simp[results,go_sem],Below.next0 (Xo8 H) (Xe4 HS),?_⟩;rw[<-(Xo6 H),(Xo3 HS)];exact ⟨a1,n1,c1,ms,rfl,(Xo0 HS),(Xo1 HS),(Xo2 HS)⟩
end Go.Proofs.YtdilmfakkppgpaaGreatDoor
