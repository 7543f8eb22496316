/- Part 23 of the proof of LawParseMeans: RdrH, Turned, Maker, MakerS. Condition: as each theorem says; none at the end. -/
import Derived.Test.YtdilmfakkppgpaaGreatDoorPkParseMeans22
set_option maxRecDepth 100000
set_option maxHeartbeats 16000000
namespace Go.Proofs.YtdilmfakkppgpaaGreatDoor
open Go.RowKit WordsM DecM
theorem Qpx {i:Nat} (h:i<9):(Q2l i).length=6:=by rw[Q2l,Q1z (by omega)];rfl
theorem Qkl (i:Nat) (hi:i<9) (w:World):Calls Tryz.prog 32 #[.int .i64 (i:Int)] w fun e w'=>e=.returned (.string ⟨(Q2l i).toArray⟩)/\w=w':=by
 have hwr:IntKind.i64.wrap ((i:Int)+1)=(i:Int)+1:=by rw[IntKind.wrap_i64];omega
 have hit:=Tryz.Qxu (i+1) (by omega) w
 rw[show ((i+1:Nat):Int)=(i:Int)+1 by omega] at hit
 obtain ⟨c,hc⟩:∃c,Lib.decDigits (i+1)=[c]:=⟨_,Q1z (by omega)⟩
 rw[hc] at hit
 have H:=Xh2 hit hc
 clear hit hc
 go_enter Tryz.func32,Tryz.ntmps32
 go_wp2_with fail
 refine (Xo0 H).mono ?_
 rintro r w1 ⟨rfl,rfl⟩
 go_wp2_with fail
 go_ret
 refine ⟨?_,rfl⟩
 rw[Q2l,show dec (i+1)=[c] from (Xe1 H)]
 rfl
def Qsh:List (Nat × Ex)->List Value->List Value
 |(p,_)::r,u::s=>.int .i64 (p:Int)::u::Qsh r s
 |_,_=>[]
theorem Qg5 (p:Nat) (x:Ex) (u:Value):∀(acc:List (Nat × Ex)) (us:List Value),acc.length=us.length->Qsh (acc++[(p,x)]) (us++[u])=Qsh acc us++[.int .i64 (p:Int),u]
 |[],[],_=>rfl
 |(q,y)::r,v::s,h=>by
  rw[List.cons_append,List.cons_append,Qsh,Qsh,Qg5 p x u r s (by simpa using h)];rfl
 |[],_::_,h=>by simp at h
 |_::_,[],h=>by simp at h
def Q4r (w:World) (g:Nat) (o:Nat):List (Nat × Ex)->Prop
 |[]=>True
 |(p,x)::r=>w.cell? ⟨g,o,none⟩=some (.int .i64 (p:Int))/\(∃u,w.cell? ⟨g,o+1,none⟩=some u/\Q2k (fun _=>False) w x u)/\Q4r w g (o+2) r
theorem Q4r.step {w w':World} {g:Nat} (hg:g<w.heap.size) (hb:Below w.heap.size w w'):∀{l:List (Nat × Ex)} {o:Nat},Q4r w g o l->Q4r w' g o l
 |[],_,_=>trivial
 |(_,_)::_,_,h=>⟨(hb.cell (p:=⟨g,_,none⟩) hg).trans h.1,by obtain ⟨u,h1,h2⟩:=h.2.1;exact ⟨u,(hb.cell (p:=⟨g,_,none⟩) hg).trans h1,h2.step hb⟩,Q4r.step hg hb h.2.2⟩
theorem Qkm {fp:Nat->Prop} {w:World} {g:Nat}:∀{l:List (Nat × Ex)} {us:List Value} (o:Nat),Q12 fp w (l.map (·.2)) us->(∀j v,(Qsh l us)[j]?=some v->w.cell? ⟨g,o+j,none⟩=some v)->Q4r w g o l
 |[],_,_,_,_=>trivial
 |(p,x)::r,u::s,o,h,hc=>by
  refine ⟨by simpa using hc 0 _ rfl,⟨u,hc 1 u rfl,h.1.more fun _ h=>h.elim⟩,Qkm (o+2) h.2 fun j v hv=>?_⟩
  have:=hc (j+2) v (by simpa[Qsh] using hv)
  rwa[show o+(j+2)=o+2+j by omega] at this
 |_::_,[],_,h,_=>h.elim
def Q52 (w:World) (X:Except Nat (List (Nat × Ex))) (e:Ending) (w':World):Prop:=
 ∃a n c p b,e=.returned (.tuple #[.slice a n c,.int .i64 p,.bool b])/\Below w.heap.size w w'/\match X with
  | .error q=>b=false/\p=(q:Int)
  | .ok l=>b=true/\∃g,a=some ⟨g,0,none⟩/\g<w'.heap.size/\n=l.length/\n<=c/\c<=maxLen/\Q4r w' g 0 l
theorem Q52.bad {w w':World} {X:Except Nat (List (Nat × Ex))} {p n c:Nat} {a:Option Addr} (hX:X=.error p) (hb:Below w.heap.size w w'):Q52 w X (.returned (.tuple #[.slice a n c,.int .i64 (p:Int),.bool false])) w':=
 ⟨a,n,c,(p:Int),false,rfl,hb,by rw[hX];exact ⟨rfl,rfl⟩⟩
theorem Below.drewN' {B:Nat} {w w':World} (h:Below B w w') (k:Nat):Below B w (w'.drewN k):=⟨h.os,h.tape,h.output,h.size,h.block⟩
structure Qg6 (w wr:World) (a:Option Addr) (n c:Nat) (acc:List (Nat × Ex)) (us:List Value):Prop where
 row:Row wr (w.heap.size+1) 84 2 a n c (Qsh acc us)
 nodes:Q12 (fpR w.heap.size a) wr (acc.map (·.2)) us
 len:acc.length=n
theorem Qd2 {w:World} {B k:Nat} {T:TypeId} {a:Option Addr} {n c:Nat} {vs:List Value} (h:Row w B T k a n c vs) {x:Addr} (hx:a=some x):B<=x.block/\x.block<w.heap.size:=by
 rcases h.form with ⟨h0,_⟩|⟨g,cur,h0,h1,h2,_⟩
 ·rw[h0] at hx;cases hx
 ·rw[h0] at hx;injection hx with hx;subst hx;exact ⟨h1,h2⟩
theorem Q52.good {w wr:World} {X:Except Nat (List (Nat × Ex))} {p:Int} {n c:Nat} {a:Option Addr} {acc:List (Nat × Ex)} {us:List Value} {k:Nat} (h:Qg6 w wr a n c acc us) (hX:X=.ok acc) (hn:n≠0) (hb:Below w.heap.size w wr):Q52 w X (.returned (.tuple #[.slice a n c,.int .i64 p,.bool true])) (wr.drewN k):=by
 refine ⟨a,n,c,p,true,rfl,⟨hb.os,hb.tape,hb.output,hb.size,hb.block⟩,?_⟩
 rw[hX]
 rcases h.row.form with ⟨_,h0,_⟩|⟨g,cur,rfl,h1,h2,h3,h4,h5,h6,h7⟩
 ·exact absurd h0 hn
 ·refine ⟨rfl,g,rfl,h2,h.len.symm,h4,h5,?_⟩
  have hl:Q4r wr g 0 acc:=Qkm 0 h.nodes fun j v hv=>by
   obtain ⟨g',e,_,_,hc⟩:=h.row.at_ hv
   injection e with e
   injection e with e
   subst e
   rw[Nat.zero_add];exact hc
  exact hl.step h2 (Qfy _ _)
theorem Qg6.step {w wr w':World} {a:Option Addr} {n c:Nat} {acc:List (Nat × Ex)} {us:List Value} (h:Qg6 w wr a n c acc us) (ht:Q0n (OnR w.heap.size) wr w'):Qg6 w w' a n c acc us:=
 ⟨h.row.turn ht (fun x hx (e:x.block=w.heap.size)=>by have:=Qd2 h.row hx;omega),h.nodes.turn ht (fun k (hk:k=w.heap.size)=>.inl (Nat.le_of_eq hk)),h.len⟩
theorem Qg6.next {w w3 w4:World} {a:Option Addr} {n c:Nat} {acc:List (Nat × Ex)} {us:List Value} {B3:Nat} (h:Qg6 w w3 a n c acc us) (hlt:w.heap.size<B3) (hab:∀x,a=some x->x.block<B3) {o:Obj} (hgr:(w3.alloc o).grownBy w4 (a.map (·.block))) {a':Option Addr} {cap p:Nat} {x:Ex} {u:Value} (hx:Q2k (·<B3) w3 x u)
 (hrow:Row w4 (w.heap.size+1) 84 2 a' (n+1) cap (Qsh acc us++[.int .i64 (p:Int),u])) (hat:a'.map (·.block)=a.map (·.block)∨a'.map (·.block)=some (w3.alloc o).heap.size):
 Qg6 w w4 a' (n+1) cap (acc++[(p,x)]) (us++[u]):=by
 have hmore:∀k,fpR w.heap.size a' k->fpR w.heap.size a k∨w3.heap.size<=k:=by
  rintro k (hk|⟨y,hy,hk⟩)
  ·exact .inl (.inl hk)
  ·subst hy
   rcases hat with h1|h1
   ·cases a with
    |none=>simp at h1
    |some z=>simp only[Option.map_some,Option.some.injEq] at h1;exact .inl (.inr ⟨z,rfl,by rw[<-h1];exact hk⟩)
   ·simp only[Option.map_some,Option.some.injEq] at h1
    rw[World.size_alloc] at h1
    exact .inr (by omega)
 have htt:Q0n (fun k=>∃y,a=some y/\y.block=k) w3 w4:=(Q0n.of_below ((Below.refl _ _).alloc (Nat.le_refl _) _) _).trans0 (Q0n.of_grown hgr fun r hr _=>by
  cases a with
  |none=>simp at hr
  |some y=>simp only[Option.map_some,Option.some.injEq] at hr;exact ⟨y,rfl,hr⟩)
 have hU:∀k,(fpR w.heap.size a k∨fpR w.heap.size a' k)->fpR w.heap.size a k∨w3.heap.size<=k:=fun k hk=>hk.elim .inl (hmore k)
 have hA:∀k,fpR w.heap.size a k->k<B3:=by
  rintro k (hk|⟨y,hy,rfl⟩)
  ·omega
  ·exact hab y hy
 refine ⟨?_,?_,by rw[List.length_append,h.len];rfl⟩
 ·rw[Qg5 _ _ _ _ _ (by have:=h.nodes.len;simpa using this)];exact hrow
 ·rw[List.map_append]
  have hn1:=((h.nodes.more hU).turn htt (fun k hk=>.inl (.inr hk))).more (fp':=fpR w.heap.size a') (fun k hk=>.inl (.inr hk))
  have h1:=((hx.more (fp':=fun k=>fpR w.heap.size a k∨fpR w.heap.size a' k) fun k hk=>(hU k hk).imp (hA k) id).turn htt (fun k hk=>.inl (.inr hk))).more (fp':=fpR w.heap.size a') (fun k hk=>.inl (.inr hk))
  exact hn1.snoc h1
theorem Qfw.form {R:Nat} {s:ByteArray} {m d:Int} {X:Except Nat Nat} {w:World} (h:Qfw R s m d X w):∃(q:Nat) (b:Bool),Q0p w R s (q:Int) m d b/\q<=s.size/\X=if b=true then .error q else .ok q:=by
 unfold Qfw at h
 cases X with
 |error q=>exact ⟨q,true,h.1,h.2,rfl⟩
 |ok q=>exact ⟨q,false,h.1,h.2,rfl⟩
theorem Q5u.form {R:Nat} {s:ByteArray} {m d:Int} {r:PR Ex} {w:World} {e:Ending} {w':World} (h:Q5u R s m d r w e w'):∃(t:TypeId) (u:Value) (q:Nat) (b:Bool),e=.returned (.iface t u)/\Q0n (OnR R) w w'/\Q0p w' R s (q:Int) m d b/\q<=s.size/\(b=true->r=.error q)/\(b=false->∃x,r=.ok (x,q)/\Q2k (·<w.heap.size) w' x (.iface t u)):=by
 obtain ⟨t,u,rfl,ht,h2⟩:=h
 cases r with
 |error q=>exact ⟨t,u,q,true,rfl,ht,h2.1,h2.2,fun _=>rfl,fun e=>by cases e⟩
 |ok z=>exact ⟨t,u,z.2,false,rfl,ht,h2.2.1,h2.2.2,(fun e=>by cases e),fun _=>⟨z.1,rfl,h2.1⟩⟩
theorem Qmh {L:List UInt8} {m n p q1 q2 q4:Nat} {b1 b2 b4:Bool} (h1:Q29 L (Q2l n) p=if b1=true then .error q1 else .ok q1)
 (h2:b2=true->Q44 b1 q1 (Q3o L m 16 q1)=.error q2) (h3:b2=false->∃x,Q44 b1 q1 (Q3o L m 16 q1)=.ok (x,q2))
 (h4:(if b2=true then Except.error (skS L q2 b2) else Q29 L [10] (skS L q2 b2))=if b4=true then Except.error q4 else Except.ok q4):
 (b4=true->Qax L m n p=.error q4)/\(b4=false->b1=false/\b2=false/\∃x,Q3o L m 16 q1=.ok (x,q2)/\Qax L m n p=.ok (x,q4)):=by
 unfold Qax
 cases b1 with
 |true=>
  have hb2:b2=true:=by
   cases b2 with
   |true=>rfl
   |false=>obtain ⟨x,hx⟩:=h3 rfl;cases hx
  subst hb2
  have e:=h2 rfl
  have e:Except.error q1=(Except.error q2:PR Ex):=e
  injection e with e
  subst e
  rw[h1]
  simp only[if_true,skS] at h4⊢
  cases b4 with
  |true=>simp only[if_true] at h4;injection h4 with h4;subst h4;exact ⟨fun _=>rfl,fun e=>by cases e⟩
  |false=>simp at h4
 |false=>
  rw[h1]
  simp only[Bool.false_eq_true,if_false]
  have e2:Q44 false q1 (Q3o L m 16 q1)=Q3o L m 16 q1:=rfl
  rw[e2] at h2 h3
  cases b2 with
  |true=>
   rw[h2 rfl]
   simp only[if_true,skS] at h4⊢
   cases b4 with
   |true=>simp only[if_true] at h4;injection h4 with h4;subst h4;exact ⟨fun _=>rfl,fun e=>by cases e⟩
   |false=>simp at h4
  |false=>
   obtain ⟨x,hx⟩:=h3 rfl
   rw[hx]
   simp only[Bool.false_eq_true,if_false,skS,Qpm] at h4⊢
   by_cases h10:Q09 L (Q07 L q2)=10
   ·rw[if_pos h10] at h4⊢
    cases b4 with
    |true=>simp at h4
    |false=>simp only[Bool.false_eq_true,if_false] at h4;injection h4 with h4;subst h4;exact ⟨(fun e=>by cases e),fun _=>⟨trivial,trivial,x,rfl,rfl⟩⟩
   ·rw[if_neg h10] at h4⊢
    cases b4 with
    |true=>simp only[if_true] at h4;injection h4 with h4;subst h4;exact ⟨fun _=>rfl,fun e=>by cases e⟩
    |false=>simp at h4
theorem Qpy:(Tryz.prog.info? 84).map (fun i=>(i.zero,i.size,i.bytes))=some (some (.agg #[.int .i64 0,.nilIface]),2,24):=by kernel_rfl
def nOf (v:Value):Nat:=match v with| .slice _ n _=>n|_=>0
def Qvo (w:World) (s:ByteArray) (L:List UInt8) (m:Nat) (X:Except Nat (List (Nat × Ex))) (sv:Value) (wr:World):Prop:=
 ∃(p:Nat) (bd:Bool) (a:Option Addr) (n c:Nat),sv=.slice a n c/\n<=5/\Q0p wr w.heap.size s (p:Int) (m:Int) 0 bd/\p<=s.size/\Below w.heap.size w wr/\
  (bd=true->X=.error p/\0<n)/\(bd=false->n<=4/\∃acc us,Qg6 w wr a n c acc us/\X=if n=0∨p<s.size then Q40 L m (4-n) p acc else .ok acc)
theorem Qpz (s:ByteArray) (w:World) (hs:s.size<=1000000) (hT:Q24 w):
 Calls Tryz.prog 43 #[.string s] w (Q52 w (Q40 s.data.toList (min (s.data.toList.count 10) 4) 4 0 [])):=by
 obtain ⟨i0,hi0,hz0,hz1,hz2⟩:=Q0t Qpy
 obtain ⟨L,hL⟩:∃L,s.data.toList=L:=⟨_,rfl⟩
 have hLs:L.length=s.size:=by rw[<-hL];rfl
 have hcnt:Calls Tryz.prog 78 #[.string s,.string ⟨#[10]⟩] w fun e w'=>e=.returned (.int .i64 (Lib.countByte s.data.toList 10:Nat))/\w=w':=(Tryz.Qy8 s 10 w).mono fun _ _ h=>⟨h.1,h.2.symm⟩
 obtain ⟨N,hN⟩:∃N:Nat,Lib.countByte s.data.toList 10=N:=⟨_,rfl⟩
 rw[hN] at hcnt
 have hNc:L.count 10=N:=by rw[<-hL];exact hN
 obtain ⟨M,hM⟩:∃M:Nat,min N 4=M:=⟨_,rfl⟩
 have hmin:min (N:Int) 4=(M:Int):=by omega
 obtain ⟨X,hX⟩:∃X,Q40 L M 4 0 []=X:=⟨_,rfl⟩
 rw[hL,hNc,hM,hX]
 have hal:Below w.heap.size w (w.alloc (.cells #[.string s,.int .i64 0,.int .i64 (M:Int),.int .i64 0,.bool false] 118)):=(Below.refl _ _).alloc (Nat.le_refl _) _
 have hrd:Q0p (w.alloc (.cells #[.string s,.int .i64 0,.int .i64 (M:Int),.int .i64 0,.bool false] 118)) w.heap.size s ((0:Nat):Int) (M:Int) 0 false:=by
  have hc:=fun o=>cell_of_row (w.alloc (.cells #[.string s,.int .i64 0,.int .i64 (M:Int),.int .i64 0,.bool false] 118)) w.heap.size o _ _ _ (heap_alloc_new _ _)
  have hf:=fun o=>frozen_of_row (w.alloc (.cells #[.string s,.int .i64 0,.int .i64 (M:Int),.int .i64 0,.bool false] 118)) w.heap.size o _ _ (heap_alloc_new _ _)
  exact ⟨(hc 0).trans rfl,(hc 1).trans rfl,(hc 2).trans rfl,(hc 3).trans rfl,(hc 4).trans rfl,hf 0,hf 1,hf 2,hf 3,hf 4,Q0f _ _,fun o ho=>by rw[hc o];exact Array.getElem?_eq_none (by simpa using ho)⟩
 have H:=Xh8 hL hLs hs hcnt hX hT hal hrd
 clear hL hLs hs hcnt hN hNc hX hT hM hal hrd
 go_enter Tryz.func43,Tryz.ntmps43
 go_wp2_with (go_at_call_of 78 (Value.string s);refine (Xo3 H).mono ?_;rintro r w1 ⟨rfl,rfl⟩)
 go_loopw [6] (fun sv wr=>Qvo w s L M X sv wr) (fun sv _=>5-nOf sv)
 case atStart=>
  exact ⟨0,false,none,0,0,rfl,by omega,(Xe7 H),Nat.zero_le _,(Xo6 H),(fun e=>by cases e),fun _=>⟨by omega,[],[],⟨Row.nil_ _ _ _ _,trivial,rfl⟩,by rw[if_pos (.inl rfl)];exact (Xo4 H).symm⟩⟩
 case round=>
  obtain ⟨p,bd,a,n,c,rfl,hn5,hr,hp,hb,hbad,hgood⟩:=hrel
  obtain ⟨b,hbv⟩:∃b:Bool,(if bd=true then false else decide (n=0∨p<s.size))=b:=⟨_,rfl⟩
  have k0:=hr.c0
  have k1:=hr.c1
  have k4:=hr.c4
  have HR:=Xh7 hr hp hb hbad hgood hbv hn5
  clear hr hp hb hbad hgood hbv
  go_upto_region 3 with fail
  go_cut [40] (fun v wx=>v=.bool b/\wr=wx)
  case first=>
   have hbv:=(Xo5 HR)
   have h0n:=(Xo3 HR)
   cases bd with
   |true=>
    have hn0:((n:Int)==0)=false:=by rw[beq_eq_false_iff_ne];have:=(h0n rfl).2;omega
    simp only[if_true] at hbv
    subst hbv
    clear h0n
    by_cases hlt:p<s.size
    ·have hlt':(p:Int)<(s.size:Int):=by omega
     go_wp2_with fail
     go_meet
     exact ⟨rfl,rfl⟩
    ·have hlt':¬(p:Int)<(s.size:Int):=by omega
     go_wp2_with fail
     go_meet
     exact ⟨rfl,rfl⟩
   |false=>
    clear h0n
    simp only[Bool.false_eq_true,if_false] at hbv
    by_cases hlt:p<s.size
    ·have hlt':(p:Int)<(s.size:Int):=by omega
     rw[decide_eq_true (Or.inr hlt)] at hbv
     subst hbv
     go_wp2_with fail
     go_meet
     exact ⟨rfl,rfl⟩
    ·have hlt':¬(p:Int)<(s.size:Int):=by omega
     by_cases hn0:n=0
     ·rw[decide_eq_true (Or.inl hn0)] at hbv
      have hn0':((n:Int)==0)=true:=by rw[hn0];rfl
      subst hbv
      clear hn0
      go_wp2_with fail
      go_meet
      exact ⟨rfl,rfl⟩
     ·rw[decide_eq_false (fun h=>h.elim hn0 hlt)] at hbv
      have hn0':((n:Int)==0)=false:=by rw[beq_eq_false_iff_ne];omega
      subst hbv
      clear hn0
      go_wp2_with fail
      go_meet
      exact ⟨rfl,rfl⟩
  case rest=>
   obtain ⟨rfl,rfl⟩:=hcut
   cases b with
   |false=>
    cases bd with
    |true=>
     have hx:=((Xo3 HR) rfl).1
     have HX:=Lib.hid hx
     clear hx
     go_wp2_with fail
     go_quiet (fail)
     go_wp2_with fail
     exact ⟨rfl,.tuple #[.slice a n c,.int .i64 (p:Int),.bool false],by simp[results,go_sem],Q52.bad HX.out (Below.drewN' (Xo2 HR) _)⟩
    |false=>
     obtain ⟨hn4,acc,us,hst,hx⟩:=(Xo4 HR) rfl
     have hnot:¬(n=0∨p<s.size):=of_decide_eq_false (by have:=(Xo5 HR);simpa using this)
     rw[if_neg hnot] at hx
     have HX:=Xh3 hst hx hnot
     clear hst hx hnot hn4
     go_wp2_with fail
     go_quiet (fail)
     go_wp2_with fail
     exact ⟨rfl,.tuple #[.slice a n c,.int .i64 (p:Int),.bool true],by simp[results,go_sem],Q52.good (Xo0 HX) (Xo1 HX) (fun h=>(Xe2 HX) (.inl h)) (Xo2 HR)⟩
   |true=>
    have hbd:bd=false:=by
     have:=(Xo5 HR)
     cases bd with
     |false=>rfl
     |true=>simp at this
    subst hbd
    obtain ⟨hn4,acc,us,hst,hx⟩:=(Xo4 HR) rfl
    have hyes:n=0∨p<s.size:=of_decide_eq_true (by have:=(Xo5 HR);simpa using this)
    rw[if_pos hyes] at hx
    by_cases h4:n=4
    ·subst h4
     have hx':X=.error p:=by rw[hx];rfl
     have HX:=Lib.hid hx'
     clear hx hx' hst hyes hn4
     go_wp2_with fail
     go_quiet (fail)
     go_wp2_with fail
     exact ⟨rfl,.tuple #[.slice none 0 0,.int .i64 (p:Int),.bool false],by simp[results,go_sem],Q52.bad HX.out (Below.drewN' (Xo2 HR) _)⟩
    ·have hn4':((n:Int)==4)=false:=by rw[beq_eq_false_iff_ne];omega
     have hs48:s.size<=281474976710656:=by have:=(Xo2 H);omega
     have hhd:=fun W=>Qkl n (by omega) W
     have hfx:=fun W (hW:Q0p W w.heap.size s (p:Int) (M:Int) 0 false)=>Q82 hW (Xo1 HR) hs48 ⟨(Q2l n).toArray⟩ (by show (Q2l n).toArray.size<=_;rw[List.size_toArray,Qpx (by omega)];decide) (by
      have:=Qpe (i:=n) (by omega)
      intro c hc e
      subst e
      exact this (by simpa using hc)) (by rw[Q2l];exact Nat.succ_pos _)
     rw[(Xo0 H)] at hfx
     simp only[Bool.false_eq_true,if_false] at hfx
     have hTT:∀W1 W,Below w.heap.size w W1->Q0n (OnR w.heap.size) W1 W->Q24 W:=fun W1 W h1 h2=>(Xo5 H).step (Below.turn h1 h2 h1.size (fun k (hk:k=w.heap.size)=>by omega))
     have hex:=fun (W:World) (q:Nat) (bd':Bool) (hW:Q0p W w.heap.size s (q:Int) (M:Int) 0 bd') (hq:q<=s.size) (hbW:Below w.heap.size w W)=>Q6v (Xo2 H) 16 W q bd' 0 (by decide) (by decide) hW hq (fun W' h'=>hTT W W' hbW h')
     rw[(Xo0 H)] at hex
     have hsgn:=fun (W:World) (q:Nat) (bd':Bool) (hW:Q0p W w.heap.size s (q:Int) (M:Int) 0 bd') (hq:q<=s.size)=>Q30 hW hq hs48
     rw[(Xo0 H)] at hsgn
     have hf2:=fun (W:World) (q:Nat) (bd':Bool) (hW:Q0p W w.heap.size s (q:Int) (M:Int) 0 bd') (hq:q<=s.size)=>Q82 hW hq hs48 ⟨#[10]⟩ (by decide) (by decide) (by decide)
     rw[(Xo0 H)] at hf2
     have HC:=Xh5 hhd hfx hex hsgn hf2
     have HX:=Xh4 hst hx hyes hn4
     have HI:=Xh4 hi0 hz0 hz1 hz2
     clear hhd hfx hex hsgn hf2 hst hx hyes hn4 hs48 hTT
     go_upto_region 8 with (first
      |(go_at_call_of 32 (Value.int IntKind.i64 (n:Int));refine ((Xo0 HC) _).mono ?_;rintro r w1 ⟨rfl,rfl⟩)
      |(go_at_call_of 79 (Value.pointer (some ⟨w.heap.size,0,none⟩));refine ((Xo1 HC) _ (Xo0 HR)).mono ?_;rintro r w1 ⟨rfl,ht1,hf1⟩;obtain ⟨q1,b1,hr1,hq1,he1⟩:=hf1.form;have H1:=Xh4 ht1 hr1 hq1 he1;clear ht1 hr1 hq1 he1 hf1))
     have hb1:Below w.heap.size w w1:=Below.turn (Xo2 HR) (Xo0 H1) (Xo2 HR).size (fun k (hk:k=w.heap.size)=>by omega)
     have HB1:=Lib.hid hb1
     clear hb1
     go_upto_region 9 with (go_at_call_of 80 (Value.pointer (some ⟨w.heap.size,0,none⟩));refine ((Xo2 HC) w1 q1 b1 (Xo1 H1) (Xo2 H1) HB1.out).mono ?_;rintro r w2 hN2;obtain ⟨t,u,q2,b2,rfl,ht2,hr2,hq2,hn2,hn2'⟩:=hN2.form;have H2:=Xh5 ht2 hr2 hq2 hn2 hn2';clear ht2 hr2 hq2 hn2 hn2' hN2)
     go_upto_region 10 with (go_at_call_of 81 (Value.pointer (some ⟨w.heap.size,0,none⟩));refine ((Xo3 HC) w2 q2 b2 (Xo1 H2) (Xo2 H2)).mono ?_;rintro r w3 ⟨rfl,hr3,ht3⟩;have H3:=Xh2 hr3 ht3;clear hr3 ht3)
     have hq3:skS L q2 b2<=s.size:=by
      unfold skS
      split
      ·exact (Xo2 H2)
      ·rw[<-(Xo1 H)];exact Q2r (by have:=(Xo1 H);have:=(Xo2 H2);omega)
     have HQ3:=Lib.hid hq3
     clear hq3
     go_upto_region 11 with (go_at_call_of 79 (Value.pointer (some ⟨w.heap.size,0,none⟩));refine ((Xe4 HC) w3 _ b2 (Xo0 H3) HQ3.out).mono ?_;rintro r w4 ⟨rfl,ht4,hf4⟩;obtain ⟨q4,b4,hr4,hq4,he4⟩:=hf4.form;have H4:=Xh4 ht4 hr4 hq4 he4;clear ht4 hr4 hq4 he4 hf4)
     obtain ⟨hle,hlo⟩:=Qmh (Xe3 H1) (Xo3 H2) (fun e=>((Xe4 H2) e).imp fun _ h=>h.1) (Xe3 H4)
     have hst4:=((((Xo0 HX).step (Xo0 H1)).step (Xo0 H2)).step (Xe1 H3)).step (Xo0 H4)
     have ht24:=(Xe1 H3).trans0 (Xo0 H4)
     have hb4:Below w.heap.size w w4:=Below.turn HB1.out ((Xo0 H2).trans0 ht24) HB1.out.size (fun k (hk:k=w.heap.size)=>by omega)
     have hn1:n+1<=5:=by have:=(Xe3 HX);omega
     obtain ⟨hi0,hz0,hz1,hz2⟩:=HI.out
     have hrow4:=hst4.row
     have hsz4:w.heap.size+1<=w4.heap.size:=(Xo1 H4).lt
     have HL:=Xh5 hle hlo hst4 ht24 hb4
     clear hle hlo hst4 ht24 hb4
     go_wp2_with (at_builtin;refine Q0o rfl (.tmp 63) (.tmp 67) 78 rfl _ _ 84 i0 _ 2 24 Tryz.underlying78 hi0 hz0 hz1 hz2 rfl (by decide) (w.heap.size+1) (Below.refl _ _) (by rw[World.size_alloc];omega) a n c _ rfl (hrow4.alloc _) ⟨w4.heap.size,0,none⟩ 1 1 [.int .i64 (p:Int),.iface t u] rfl rfl (World.news_of_block (cs:= #[.int .i64 (p:Int),.iface t u]) (heap_alloc_new w4 _)) (by simp[Value.oneCell']) (n+1) rfl (by omega) (by omega) ?_;intro a5 c5 w5 ho5 hg5 hb5 hat5;have HO:=Xh4 ho5 hb5 hg5 hat5;clear ho5 hg5 hb5 hat5)
     have hB:Below w.heap.size w w5:=((Xe4 HL).alloc (Xe4 HL).size _).trans ⟨(Xo1 HO).os,(Xo1 HO).tape,(Xo1 HO).output,(Xo1 HO).size,fun k hk=>(Xo1 HO).block k (by omega)⟩
     have hst5:=(Xo2 HL)
     have hab:∀x,a=some x->w.heap.size+1<=x.block/\x.block<w1.heap.size:=fun x hx=>Qd2 ((Xo0 HX).step (Xo0 H1)).row hx
     have hta:Q0n (fun k=>∃y,a=some y/\y.block=k) w4 w5:=(Q0n.of_below ((Below.refl _ _).alloc (Nat.le_refl _) _) _).trans0 (Q0n.of_grown (Xo2 HO) fun r hr _=>by
      cases a with
      |none=>simp at hr
      |some y=>simp only[Option.map_some,Option.some.injEq] at hr;exact ⟨y,rfl,hr⟩)
     have hr5:=(Xo1 H4).keep hta (by rintro ⟨y,hy,e⟩;have:=hab y hy;omega)
     refine ⟨⟨q4,b4,a5,n+1,c5,rfl,by omega,hr5,(Xo2 H4),hB,fun e=>⟨?_,Nat.succ_pos _⟩,fun e=>⟨by have:=(Xe3 HX);omega,?_⟩⟩,by simp only[nOf];omega⟩
     ·rw[(Xo1 HX),show 4-n=(4-(n+1))+1 by omega,Q40,show acc.length=n from (Xo0 HX).len,(Xo0 HL) e]
     ·obtain ⟨e1,e2,x,hx1,hx2⟩:=(Xo1 HL) e
      subst e1;subst e2
      obtain ⟨x',hx',hxat⟩:=(Xe4 H2) rfl
      have hxx:x'=x:=by
       have h':Q3o L M 16 q1=.ok (x',q2):=hx'
       rw[hx1] at h'
       injection h' with h'
       injection h' with h' _
       exact h'.symm
      subst hxx
      have hx4:=hxat.turn (Xo3 HL) (fun k (hk:k=w.heap.size)=>by subst hk;exact (Xo1 H1).lt)
      refine ⟨_,_,hst5.next (Xo1 H1).lt (fun x hx=>(hab x hx).2) (Xo2 HO) hx4 (Xo0 HO) (Xe3 HO),?_⟩
      rw[(Xo1 HX),show 4-n=(4-(n+1))+1 by omega,Q40,show acc.length=n from (Xo0 HX).len,hx2]
      simp only[Nat.succ_ne_zero,false_or,(Xo1 H)]
end Go.Proofs.YtdilmfakkppgpaaGreatDoor
namespace Go.Proofs.YtdilmfakkppgpaaGreatDoor
open Go.RowKit WordsM
theorem Qbe {P:Program} {ops:Array Oper} {o:Oper} {a:Act} {w:World} {K:Act->World->Prop} {Q:Exit->Act->World->Prop} {E:Prop} (hgd:o.guard=none) (s x:Operand) (t1 t2:TypeId) (ho:o.op=.call { callee:=.builtin .append,args:= #[s,x],argTypes:= #[t1,t2] })
 (va vx:Value) (hs:a.eval s=va) (hx:a.eval x=vx) (v:Value) (w':World) (hrun:(Builtin.append_ #[t1,t2] o.type #[va,vx]).run P w=.ok v w') (h:K (a.put o.dst v) w'):if Region.wanted o (yielded ops a.tmps)=true then Oper.wp P o a w K Q else E:=by
 rw[if_pos (by simp[Region.wanted,hgd])]
 unfold Oper.wp execOp
 simp only[ho,resolve,invoke,builtin,Sem.run_bind,Sem.run_pure,Result.andThen_ok,List.map_toArray,List.map_cons,List.map_nil,hs,hx,hrun]
 exact h
def Qte (m:Q05):Q05:=⟨!m.neg,m.exp,m.ws,m.es⟩
theorem Qq0 (m:Q05):(Qte m).term=(-m.term.1,m.term.2):=by
 show (Q1q (!m.neg) m.exp m.ws,m.es)=(-Q1q m.neg m.exp m.ws,m.es)
 unfold Q1q
 rw[Qol,Qex]
theorem Qul {k:Nat} {m:Q05} (h:OkM k m):OkM k (Qte m):=by
 obtain ⟨⟨h1,h2⟩,h3⟩:=h
 refine ⟨⟨h1,?_⟩,h3⟩
 show Q0h (!m.neg) m.exp m.ws
 unfold Q0h at h2⊢
 rw[if_neg h3] at h2⊢
 exact h2
theorem Qmi (ms:List Q05):(ms.map Qte).map Q05.term=Q47 (ms.map Q05.term):=by
 unfold Q47
 rw[List.map_map,List.map_map]
 exact List.map_congr_left fun m _=>Qq0 m
theorem Qd3 {k:Nat} {ms:List Q05} (h:Q0s k ms):Q0s k (ms.map Qte):=by
 obtain ⟨h1,h2,h3,h4,h5⟩:=h
 refine ⟨h1,h2,by rw[List.length_map];exact h3,fun m hm=>?_,?_⟩
 ·obtain ⟨m0,hm0,rfl⟩:=List.mem_map.1 hm
  exact Qul (h4 m0 hm0)
 ·rw[List.pairwise_map]
  exact h5
def Qq1 (w:World) (ms:List Q05) (s3 s8:Value) (wx:World):Prop:=∃(i:Nat) (a:Option Addr) (c:Nat),s3=.slice a i c/\s8=.int .i64 (i:Int)/\i<=ms.length/\Q1x w.heap.size wx a i c ((ms.take i).map Qte)/\Below w.heap.size w wx
theorem Qq2 {w w3 w6:World} {ms:List Q05} {i:Nat} {x:Q05} {a1 a3:Option Addr} {l3 c3 c1 c6 g6 be oe le ce:Nat} {xs:List Value} (hlt:i<ms.length) (hx:ms[i]?=some x) (hnw:WordsIn w3 a3 l3 c3 x.ws) (he:Q0k w (some ⟨be,oe,none⟩) le ce x.es) (hbe:be<w.heap.size) (hb:Below w.heap.size w w3) (houts:Q1x w.heap.size w3 a1 i c1 ((ms.take i).map Qte))
 (hr:Q4b NoU w3 w.heap.size 44 4 a1 i c1 xs) (hrow6:Q4b NoU w6 w.heap.size 44 4 (some ⟨g6,0,none⟩) (i+1) c6 (xs++[.bool (!x.neg),.int .i64 x.exp,.slice a3 l3 c3,.slice (some ⟨be,oe,none⟩) le ce]))
 (hgr6:(w3.alloc (.cells #[.bool (!x.neg),.int .i64 x.exp,.slice a3 l3 c3,.slice (some ⟨be,oe,none⟩) le ce] 44)).grownBy w6 (a1.map (·.block))) (hat6:a1=some ⟨g6,0,none⟩∨g6=(w3.alloc (.cells #[.bool (!x.neg),.int .i64 x.exp,.slice a3 l3 c3,.slice (some ⟨be,oe,none⟩) le ce] 44)).heap.size):
 Qq1 w ms (.slice (some ⟨g6,0,none⟩) (i+1) c6) (.int .i64 ((i:Int)+1)) w6:=by
 have hb4:=hb.alloc hb.size (.cells #[.bool (!x.neg),.int .i64 x.exp,.slice a3 l3 c3,.slice (some ⟨be,oe,none⟩) le ce] 44)
 refine ⟨i+1,_,c6,rfl,congrArg (Value.int .i64) (by omega),hlt,?_,?_⟩
 ·rw[List.take_add_one,hx,List.map_append]
  exact houts.push hr (o:=(.cells #[.bool (!x.neg),.int .i64 x.exp,.slice a3 l3 c3,.slice (some ⟨be,oe,none⟩) le ce] 44)) hgr6 hat6 (m:=Qte x) hrow6 rfl hnw (he.step hb) (Nat.lt_of_lt_of_le hbe hb.size) (fun z hz e=>by have:=(houts.lt hz).1;omega)
 ·exact hb4.trans ⟨hgr6.os,hgr6.tape,hgr6.output,hgr6.size,fun z hz=>hgr6.block z (Nat.lt_of_lt_of_le hz hb4.size) (fun e=>by
   cases a1 with
   |none=>simp at e
   |some q=>simp only[Option.map_some,Option.some.injEq] at e;have:=(houts.lt rfl).1;omega)⟩
theorem Qmj (a:Option Addr) (n c:Nat) (ms:List Q05) (k:Nat) (w:World) (h:Q0c w a n c ms) (hr:Q0s k ms):
 Calls Tryz.prog 139 #[.slice a n c] w fun r w'=>∃a' c',r=.returned (.slice a' n c')/\Q0c w' a' n c' (ms.map Qte)/\Below w.heap.size w w':=by
 have hln:=h.1
 have hn:n<=24:=by have:=hr.2.2.1;omega
 have hk1:=hr.1
 obtain ⟨i0,hi0,hz0,hz1,hz2⟩:=Q0t Q45
 have HI:=Xh4 hi0 hz0 hz1 hz2
 have H:=Xh2 h hr
 clear h hr hi0 hz0 hz1 hz2
 go_enter Tryz.func139,Tryz.ntmps139
 go_wp2_with fail
 go_loopw [3,8] (fun s3 s8 wr=>Qq1 w ms s3 s8 wr) (fun _ iv _=>n-(intOf iv).toNat)
 case atStart=>exact ⟨0,none,0,rfl,rfl,Nat.zero_le _,Q1x.nil_ _ _,Below.refl _ _⟩
 case round=>
  obtain ⟨i,a1,c1,rfl,rfl,hi,hall,hbr⟩:=hrel
  by_cases hlt:i<ms.length
  ·have hlt':(i:Int)<(n:Int):=by omega
   obtain ⟨x,hx⟩:∃x,ms[i]?=some x:=⟨_,List.getElem?_eq_getElem hlt⟩
   obtain ⟨b0,o0,rfl,hb0,hat⟩:∃b o,a=some ⟨b,o,none⟩/\b<w.heap.size/\∀j m,ms[j]?=some m->Q4a w b (o+j*4) m:=by
    rcases (Xo0 H).2.2.2 with h0|h0
    ·rw[h0] at hlt;simp at hlt
    ·exact h0
   obtain ⟨aw,lw,cw,ae,le,ce,k0,k1,k2,k3,hw,he,hx1,hx2⟩:=hat i x hx
   have hkx:OkM k x:=(Xo4 H) x (List.mem_of_getElem? hx)
   obtain ⟨be,oe,rfl,hbe⟩:∃be oe,ae=some ⟨be,oe,none⟩/\be<w.heap.size:=by
    rcases he.rd with h0|⟨bb,oo,e,hbb,_⟩
    ·exfalso
     have:=hkx.1.1.1
     rw[h0] at this
     simp at this;omega
    ·exact ⟨bb,oo,e,hbb⟩
   have k0:=(hbr.cell (p:=⟨b0,o0+i*4,none⟩) hb0).trans k0
   have k1:=(hbr.cell (p:=⟨b0,o0+i*4+1,none⟩) hb0).trans k1
   have k2:=(hbr.cell (p:=⟨b0,o0+i*4+2,none⟩) hb0).trans k2
   have k3:=(hbr.cell (p:=⟨b0,o0+i*4+3,none⟩) hb0).trans k3
   have hX:=Q2s.new wr (.bool x.neg) (.int .i64 x.exp) (.slice aw lw cw) (.slice (some ⟨be,oe,none⟩) le ce) 44
   have hbx:Below wr.heap.size wr (wr.alloc (.cells #[.bool x.neg,.int .i64 x.exp,.slice aw lw cw,.slice (some ⟨be,oe,none⟩) le ce] 44)):=(Below.refl _ _).alloc (Nat.le_refl _) _
   have hlx:=Q0f wr (.cells #[.bool x.neg,.int .i64 x.exp,.slice aw lw cw,.slice (some ⟨be,oe,none⟩) le ce] 44)
   have hbw:=Below.next0 hbr hbx
   have hbd:Below w.heap.size w (wr.alloc (.cells #[.bool x.neg,.int .i64 x.exp,.slice aw lw cw,.slice (some ⟨be,oe,none⟩) le ce] 44)).drew:=Q6l hbw
   have hneg:=Qlo x.neg x.exp aw lw cw x.ws _ (hw.step hbd) hkx.1.2 hkx.2
   have e0:=hX.c0
   have e1:=hX.c1
   have e2:=hX.c2
   have e3:=hX.c3
   have d3:(wr.alloc (.cells #[.bool x.neg,.int .i64 x.exp,.slice aw lw cw,.slice (some ⟨be,oe,none⟩) le ce] 44)).drew.cell? ⟨wr.heap.size,3,none⟩=some (.slice (some ⟨be,oe,none⟩) le ce):=e3
   have HS:=Xh12 hall hbr hx hw he hkx hX hbx hlx hbw hneg hbe
   clear hall hbr hx hw he hkx hX hbx hlx hbw hbd hneg hbe hat hx1 hx2
   go_upto_region 5 with fail
   go_region_law (first
    |(refine Q2x (by rfl) 168 #[.agg #[.bool x.neg,.int .i64 x.exp,.slice aw lw cw]] (by simp[go_sem]) ?_
      refine (Xo10 HS).mono ?_
      rintro r w3 ⟨a3,l3,c3,rfl,hnw,hb3d⟩
      refine ⟨_,rfl,?_⟩
      have hb3:Below (wr.alloc (.cells #[.bool x.neg,.int .i64 x.exp,.slice aw lw cw,.slice (some ⟨be,oe,none⟩) le ce] 44)).heap.size (wr.alloc (.cells #[.bool x.neg,.int .i64 x.exp,.slice aw lw cw,.slice (some ⟨be,oe,none⟩) le ce] 44)) w3:=⟨hb3d.os,hb3d.tape,hb3d.output,hb3d.size,hb3d.block⟩
      have m3:=((Xo6 HS).step hb3 (Xo8 HS)).c3
      obtain ⟨hi0,hz0,hz1,hz2⟩:=HI.out
      have hb3w:=Below.next0 (Xo7 HS) hb3
      have hb3a:=Below.next0 (Xo9 HS) hb3
      have houts:=(Xo0 HS).step hb3w
      obtain ⟨xs,hr⟩:=houts.row
      have hB6:w.heap.size<=(w3.alloc (.cells #[.bool (!x.neg),.int .i64 x.exp,.slice a3 l3 c3,.slice (some ⟨be,oe,none⟩) le ce] 44)).heap.size:=by
       have:=hb3a.size;rw[World.size_alloc];omega
      obtain ⟨g6,c6,w6,hrun6,hrow6,hgr6,hat6⟩:=Q1f (P:=Tryz.prog) NoU (w3.alloc (.cells #[.bool (!x.neg),.int .i64 x.exp,.slice a3 l3 c3,.slice (some ⟨be,oe,none⟩) le ce] 44)) 25 25 44 i0 _ 4 64 Tryz.underlying25 hi0 hz0 hz1 hz2 rfl Q6r w.heap.size hB6 a1 i c1 xs (hr.step ((Below.refl _ _).alloc (Nat.le_refl _) _)) w3.heap.size 1 1 [.bool (!x.neg),.int .i64 x.exp,.slice a3 l3 c3,.slice (some ⟨be,oe,none⟩) le ce] rfl (World.news_of_block (cs:= #[.bool (!x.neg),.int .i64 x.exp,.slice a3 l3 c3,.slice (some ⟨be,oe,none⟩) le ce]) (heap_alloc_new _ _)) (by simp[Value.oneCell']) (by intro u hu;simp at hu;rcases hu with rfl|rfl|rfl|rfl <;> exact fun _=>by simp[nv]) (by decide) (by omega) (by decide) (by decide)
      have H3:=Xh8 hnw hb3w hb3a houts hr hrow6 hgr6 hat6
      clear hnw hb3d hb3 hb3w hb3a houts hr hrow6 hgr6 hat6 hB6 hi0 hz0 hz1 hz2)
    |(refine Qbe (by rfl) (.tmp 12) (.tmp 19) 25 25 (by rfl) _ _ (by rfl) (by rfl) _ _ hrun6 ?_))
   all_goals go_wp2_with fail
   all_goals exact ⟨Qq2 hlt (Xo2 HS) (Xo0 H3).toWordsIn (Xo4 HS) (Xe11 HS) (Xo2 H3) (Xo3 H3) (Xo4 H3) (Xo5 H3) (Xo6 H3) (Xe7 H3),by simp only[intOf];omega⟩
  ·have hlt':¬((i:Int)<(n:Int)):=by omega
   have hie:i=n:=by omega
   rw[show i=ms.length by omega,List.take_length,show ms.length=n from hln] at hall
   have HS:=Xh2 hall hbr
   subst hie
   clear hall hbr
   go_wp2_with fail
   go_ret
   exact ⟨a1,c1,rfl,(Xo0 HS).monos fun m hm=>((Qd3 (Xe1 H)).2.2.2.1 m hm).1.2,(Xe1 HS)⟩
theorem Q6f {l:List Q0b} {e:Int} (h:Q1t l=.error e):e≠0:=by
 unfold Q1t at h
 split at h
 ·injection h with h;omega
 ·split at h
  ·injection h with h;omega
  ·cases h
theorem Qa8 {a b:List Q0b} {e:Int} (h:Qau a b=.error e):e≠0:=by
 unfold Qau at h
 split at h
 ·injection h with h;omega
 ·split at h
  ·injection h with h;omega
  ·exact Q6f h
theorem Qkn {p:List Q0b} {e:Int}:∀{k:Nat},Qhl p k=.error e->e≠0
 |0,h=>by rw[Qhl] at h;cases h
 |k+1,h=>by
  rw[Qhl] at h
  cases hq:Qhl p k with
  |error x=>rw[hq] at h;injection h with h;subst h;exact Qkn hq
  |ok q=>rw[hq] at h;exact Qa8 h
theorem Qmk {n:Nat} {p:List Q0b} {k:Nat} {e:Int} (h:Qfb n p k=.error e):e≠0:=by
 cases k with
 |zero=>rw[Qfb] at h;cases h
 |succ k=>exact Qkn h
mutual
theorem Q4s (n:Nat):∀(x:Ex) (e:Int),Q1k n x=.error e->e≠0
 | .num none,e,h=>by rw[Q1k] at h;injection h with h;omega
 | .num (some c),e,h=>by rw[Q1k] at h;exact Q6f h
 | .var i,e,h=>by rw[Q1k] at h;exact Q6f h
 | .sum l,e,h=>by rw[Q1k] at h;exact Qbf n l none e h
 | .prod l,e,h=>by rw[Q1k] at h;exact Qbg n l none e h
 | .pow b k,e,h=>by
   rw[Q1k] at h
   cases hb:Q1k n b with
   |error x=>rw[hb] at h;injection h with h;subst h;exact Q4s n b x hb
   |ok p=>rw[hb] at h;exact Qmk h
theorem Qbf (n:Nat):∀(l:List (Bool × Ex)) (acc:Option (List Q0b)) (e:Int),Q3m n acc l=.error e->e≠0
 |[],acc,e,h=>by rw[Q3m] at h;cases h
 |(b,t)::r,acc,e,h=>by
  rw[Q3m] at h
  cases ht:Q1k n t with
  |error x=>rw[ht] at h;injection h with h;subst h;exact Q4s n t x ht
  |ok p=>
   rw[ht] at h
   cases acc with
   |none=>exact Qbf n r _ e h
   |some q=>
    simp only at h
    cases hq:Qnj q (if b then Q47 p else p) with
    |error x=>rw[hq] at h;injection h with h;subst h;exact Q6f hq
    |ok q'=>rw[hq] at h;exact Qbf n r _ e h
theorem Qbg (n:Nat):∀(l:List Ex) (acc:Option (List Q0b)) (e:Int),Q3n n acc l=.error e->e≠0
 |[],acc,e,h=>by rw[Q3n] at h;cases h
 |t::r,acc,e,h=>by
  rw[Q3n] at h
  cases ht:Q1k n t with
  |error x=>rw[ht] at h;injection h with h;subst h;exact Q4s n t x ht
  |ok p=>
   rw[ht] at h
   cases acc with
   |none=>exact Qbg n r _ e h
   |some q=>
    simp only at h
    cases hq:Qau q p with
    |error x=>rw[hq] at h;injection h with h;subst h;exact Qa8 hq
    |ok q'=>rw[hq] at h;exact Qbg n r _ e h
end
theorem Q2k.step' {fp:Nat->Prop} {w w':World} {x:Ex} {v:Value} (h:Q2k fp w x v) (hb:Below w.heap.size w w'):Q2k fp w' x v:=h.turn (Q0n.of_below hb (fun _=>False)) (fun _ h=>h.elim)
theorem Q9s.get {fp:Nat->Prop} {w:World} {a b:Nat}:∀{l:List (Bool × Ex)} {o i:Nat} {t:Bool} {x:Ex},Q9s fp w a b o l->l[i]?=some (t,x)->(∃u,w.cell? ⟨a,o+i,none⟩=some u/\Q2k fp w x u)/\w.cell? ⟨b,o+i,none⟩=some (.bool t)
 |[],_,_,_,_,_,hi=>by simp at hi
 |(t0,x0)::r,o,i,t,x,h,hi=>by
  rw[Q9s] at h
  cases i with
  |zero=>
   simp only[List.getElem?_cons_zero,Option.some.injEq,Prod.mk.injEq] at hi
   obtain ⟨rfl,rfl⟩:=hi
   exact ⟨h.1,h.2.1⟩
  |succ i=>
   have:=Q9s.get (i:=i) h.2.2 (by simpa using hi)
   rwa[show o+1+i=o+(i+1) by omega] at this
theorem Q8x.get {fp:Nat->Prop} {w:World} {a:Nat}:∀{l:List Ex} {o i:Nat} {x:Ex},Q8x fp w a o l->l[i]?=some x->∃u,w.cell? ⟨a,o+i,none⟩=some u/\Q2k fp w x u
 |[],_,_,_,_,hi=>by simp at hi
 |x0::r,o,i,x,h,hi=>by
  rw[Q8x] at h
  cases i with
  |zero=>
   simp only[List.getElem?_cons_zero,Option.some.injEq] at hi
   subst hi
   exact h.1
  |succ i=>
   have:=Q8x.get (i:=i) h.2 (by simpa using hi)
   rwa[show o+1+i=o+(i+1) by omega] at this
theorem Q2k.face {fp:Nat->Prop} {w:World} {x:Ex} {v:Value} (h:Q2k fp w x v):∃t u,v=.iface t u:=by
 cases x with
 |num c=>
  cases c with
  |none=>rw[Q2k] at h;obtain ⟨_,_,_,_,_,rfl⟩:=h;exact ⟨_,_,rfl⟩
  |some c=>rw[Q2k] at h;obtain ⟨_,_,_,_,_,_,rfl,_⟩:=h;exact ⟨_,_,rfl⟩
 |var i=>rw[Q2k] at h;exact ⟨_,_,h⟩
 |sum l=>rw[Q2k] at h;obtain ⟨_,_,_,_,rfl,_⟩:=h;exact ⟨_,_,rfl⟩
 |prod l=>rw[Q2k] at h;obtain ⟨_,_,rfl,_⟩:=h;exact ⟨_,_,rfl⟩
 |pow b k=>rw[Q2k] at h;obtain ⟨_,rfl,_⟩:=h;exact ⟨_,_,rfl⟩
def Q78 (k:Nat) (x:Ex):Prop:=∀(v:Value) (w:World),Q2k (fun _=>False) w x v->Q24 w->Calls Tryz.prog 44 #[.agg #[.int .i64 (k:Int)],v] w (Q19 w k (Q1k k x))
def Qvp (w:World) (k:Nat) (l:List (Bool × Ex)) (s6 s14:Value) (wx:World):Prop:=∃(i:Nat) (acc:Option (List Q0b)) (a:Option Addr) (n c:Nat) (ms:List Q05),s6=.slice a n c/\s14=.int .i64 (i:Int)/\i<=l.length/\(acc=none↔i=0)/\Q0c wx a n c ms/\ms.map Q05.term=acc.getD []/\(acc≠none->Q0s k ms)/\
 Q3m k none l=Q3m k acc (l.drop i)/\Below w.heap.size w wx
def Qvq (w:World) (k:Nat) (p:List Q0b) (v:Value):Prop:=∃a n c ms,v=.slice a n c/\Q0c w a n c ms/\ms.map Q05.term=p/\Q0s k ms
def Qvr (k:Nat) (r:List (Bool × Ex)):Except Int (List Q0b)->Except Int (List Q0b)
 | .error e=>.error e
 | .ok q=>Q3m k (some q) r
theorem Qml {k:Nat} {q p:List Q0b} {t:Bool} {x:Ex} {r:List (Bool × Ex)} (h:Q1k k x=.ok p):Q3m k (some q) ((t,x)::r)=Qvr k r (Qnj q (if t=true then Q47 p else p)):=by
 rw[Q3m,h]
 show (match Qnj q (if t=true then Q47 p else p) with| .error e=>(.error e:Except Int (List Q0b))| .ok q'=>Q3m k (some q') r)=_
 cases Qnj q (if t=true then Q47 p else p) <;> rfl
theorem Qe4 {α:Type} {l:List α} {i:Nat} {x:α} (h:l[i]?=some x):l.drop i=x::l.drop (i+1):=by
 obtain ⟨hlt,rfl⟩:=List.getElem?_eq_some_iff.1 h
 exact List.drop_eq_getElem_cons hlt
theorem Qg7 (k:Nat) (l:List (Bool × Ex)) (a b c d:Nat) (w:World) (hm:∀(i:Nat) (t:Bool) (x:Ex),l[i]?=some (t,x)->Q78 k x) (hne:l≠[]) (ha:a<w.heap.size) (hb:b<w.heap.size) (hl:l.length<=9223372036854775807) (hx:Q9s (fun _=>False) w a b 0 l) (hT:Q24 w):
 Calls Tryz.prog 84 #[.agg #[.int .i64 (k:Int)],.agg #[.slice (some ⟨a,0,none⟩) l.length c,.slice (some ⟨b,0,none⟩) l.length d]] w (Q19 w k (Q3m k none l)):=by
 obtain ⟨X,hX⟩:∃X,Q3m k none l=X:=⟨_,rfl⟩
 rw[hX]
 obtain ⟨n,hn⟩:∃n,l.length=n:=⟨_,rfl⟩
 rw[hn] at hl⊢
 obtain ⟨W0,hW0⟩:∃W0,(w.alloc (.cells #[.int .i64 (k:Int)] 87)).alloc (.cells #[.slice (some ⟨a,0,none⟩) n c,.slice (some ⟨b,0,none⟩) n d] 130)=W0:=⟨_,rfl⟩
 have hs1:(w.alloc (.cells #[.int .i64 (k:Int)] 87)).heap.size=w.heap.size+1:=World.size_alloc _ _
 have hb1:Below w.heap.size w (w.alloc (.cells #[.int .i64 (k:Int)] 87)):=(Below.refl _ _).alloc (Nat.le_refl _) _
 have hb2:Below w.heap.size w W0:=by rw[<-hW0];exact hb1.alloc (by rw[hs1];omega) _
 have hs2:W0.heap.size=w.heap.size+2:=by rw[<-hW0,World.size_alloc,hs1]
 have k0:W0.cell? ⟨w.heap.size,0,none⟩=some (.int .i64 (k:Int)):=by
  rw[<-hW0,World.cell?_alloc_lt _ _ _ (by rw[hs1];exact Nat.lt_succ_self _),cell_of_row _ _ _ _ _ _ (heap_alloc_new _ _)];rfl
 have hh:W0.heap[w.heap.size+1]?=some (.cells #[.slice (some ⟨a,0,none⟩) n c,.slice (some ⟨b,0,none⟩) n d] 130 (0,0)):=by
  rw[<-hW0,<-hs1];exact heap_alloc_new _ _
 have k1:W0.cell? ⟨w.heap.size+1,0,none⟩=some (.slice (some ⟨a,0,none⟩) n c):=by rw[cell_of_row _ _ _ _ _ _ hh];rfl
 have k2:W0.cell? ⟨w.heap.size+1,1,none⟩=some (.slice (some ⟨b,0,none⟩) n d):=by rw[cell_of_row _ _ _ _ _ _ hh];rfl
 have H:=Xh13 hm hne ha hb hx hT hX hn hb2 hs2 k0 k1 k2
 clear hm hne ha hb hx hT hX hn hb2 hs2 hb1 hs1 hh
 go_enter Tryz.func84,Tryz.ntmps84
 go_wp2_with fail
 clear hW0
 go_loopw [6,14] (fun s6 s14 wr=>Qvp W0 k l s6 s14 wr) (fun _ iv _=>n-(intOf iv).toNat)
 case atStart=>exact ⟨0,none,none,0,0,[],rfl,rfl,Nat.zero_le _,by simp,⟨rfl,Nat.le_refl _,by decide,.inl rfl⟩,rfl,(fun h=>absurd rfl h),rfl,Below.refl _ _⟩
 case round=>
  obtain ⟨i,acc,a1,n1,c1,ms,rfl,rfl,hi,hacc,hmi,hterm,hright,heq,hbr⟩:=hrel
  have hlen:=(Xo7 H)
  by_cases hlt:i<l.length
  ·have hlt':(i:Int)<(n:Int):=by omega
   obtain ⟨tx,htx⟩:∃tx,l[i]?=some tx:=⟨_,List.getElem?_eq_getElem hlt⟩
   obtain ⟨t,x⟩:=tx
   obtain ⟨⟨u,q0,hu⟩,q1⟩:=Q9s.get (Xo4 H) htx
   have hbr0:=Below.next0 (Xo8 H) hbr
   obtain ⟨t0,u0,rfl⟩:=hu.face
   rw[Nat.zero_add] at q0 q1
   have q0:=(hbr0.cell (p:=⟨a,i,none⟩) (Xo2 H)).trans q0
   have q1:=(hbr0.cell (p:=⟨b,i,none⟩) (Xo3 H)).trans q1
   have r0:=(hbr.cell (p:=⟨w.heap.size,0,none⟩) (by rw[(Xo9 H)];show w.heap.size<_;omega)).trans k0
   have r1:=(hbr.cell (p:=⟨w.heap.size+1,0,none⟩) (by rw[(Xo9 H)];show w.heap.size+1<_;omega)).trans k1
   have r2:=(hbr.cell (p:=⟨w.heap.size+1,1,none⟩) (by rw[(Xo9 H)];show w.heap.size+1<_;omega)).trans k2
   have hcall:=(Xo0 H) i t x htx _ wr (hu.step' hbr0) ((Xo5 H).step hbr0)
   obtain ⟨Y,hY⟩:∃Y,Q1k k x=Y:=⟨_,rfl⟩
   rw[hY] at hcall
   have hdr:=Qe4 htx
   rw[hdr] at heq
   have HR:=Xh9 hacc hmi hterm hright heq hbr hcall hY hbr0
   clear hacc hmi hterm hright heq hbr hcall hY hdr htx hu hbr0
   cases Y with
   |error er=>
    have her:(er==0)=false:=beq_eq_false_iff_ne.2 (Q4s k x er (Xo7 HR))
    have hX:X=.error er:=by
     rw[<-(Xo6 H),(Xo4 HR),Q3m,(Xo7 HR)]
    have HX:=Lib.hid hX
    clear hX
    go_wp2_with (go_at_call_of 44 (Value.agg #[.int .i64 (k:Int)]);refine (Xo6 HR).mono ?_;rintro r w3 ⟨hb3,a3,l3,c3,rfl⟩;have H3:=Lib.hid hb3;clear hb3)
    exact ⟨rfl,.tuple #[.slice none 0 0,.int .i64 er],by simp[results,go_sem],Q19.err HX.out (Below.next0 (Xe8 HR) H3.out)⟩
   |ok p=>
    have HZ:=Lib.hid r0
    go_upto_if 32 with (go_at_call_of 44 (Value.agg #[.int .i64 (k:Int)]);refine (Xo6 HR).mono ?_;rintro r w3 ⟨hb3,a3,l3,c3,ms3,rfl,hm3,ht3,hr3⟩;(have r1:=(hb3.cell (p:=⟨w.heap.size+1,1,none⟩) (block_lt_of_cell r2)).trans r2);(have q1:=(hb3.cell (p:=⟨b,i,none⟩) (block_lt_of_cell q1)).trans q1);(have r0:=(hb3.cell (p:=⟨w.heap.size,0,none⟩) (block_lt_of_cell r0)).trans r0);have H3:=Xh4 hb3 hm3 ht3 hr3;clear hb3 hm3 ht3 hr3)
    obtain ⟨p',hp'⟩:∃p',(if t=true then Q47 p else p)=p':=⟨_,rfl⟩
    have HP:=Lib.hid hp'
    clear hp'
    go_cut [9] (fun s9 wx=>Qvq wx k p' s9/\Below wr.heap.size wr wx)
    case first=>
     cases t with
     |false=>
      go_wp2_with fail
      go_meet
      refine ⟨⟨a3,l3,c3,ms3,rfl,(Xo1 H3),?_,(Xe3 H3)⟩,(Xo0 H3)⟩
      rw[<-HP.out];exact (Xo2 H3)
     |true=>
      have htu:=Qmj a3 l3 c3 ms3 k w3 (Xo1 H3) (Xe3 H3)
      have HT:=Lib.hid htu
      clear htu
      go_wp2_with (go_at_call_of 139 (Value.slice a3 l3 c3);refine HT.out.mono ?_;rintro r w4 ⟨a4,c4,rfl,hm4,hb4⟩;have H4:=Xh2 hm4 hb4;clear hm4 hb4)
      go_meet
      refine ⟨⟨a4,l3,c4,_,rfl,(Xo0 H4),?_,Qd3 (Xe3 H3)⟩,Below.next0 (Xo0 H3) (Xe1 H4)⟩
      rw[<-HP.out,Qmi,(Xo2 H3)];rfl
    case rest=>
     obtain ⟨⟨a5,l5,c5,ms5,rfl,hm5,ht5,hr5⟩,hb5⟩:=hcut
     have r0:=(hb5.cell (p:=⟨w.heap.size,0,none⟩) (block_lt_of_cell HZ.out)).trans HZ.out
     have H5:=Xh4 hm5 ht5 hr5 hb5
     clear hm5 ht5 hr5 hb5
     by_cases hi0:i=0
     ·have hi1:¬((0:Int)<(i:Int)):=by omega
      have hac:=(Xo0 HR).2 hi0
      have HA:=Lib.hid hac
      clear hac hi0
      go_wp2_with fail
      refine ⟨⟨i+1,some p',a5,l5,c5,ms5,rfl,congrArg (Value.int .i64) (by omega),hlt,by simp,(Xo0 H5),(Xo1 H5),fun _=>(Xo2 H5),?_,Below.next0 (Xo5 HR) (Xe3 H5)⟩,by simp only[intOf];omega⟩
      rw[(Xo4 HR),Q3m,(Xo7 HR),HA.out]
      show Q3m k (some (if t=true then Q47 p else p)) _=_
      rw[HP.out]
     ·have hi1:(0:Int)<(i:Int):=by omega
      obtain ⟨q,hq⟩:∃q,acc=some q:=Option.ne_none_iff_exists'.1 (fun e=>hi0 ((Xo0 HR).1 e))
      have hmq:ms.map Q05.term=q:=by rw[(Xo2 HR),hq];rfl
      have hrq:=(Xo3 HR) (by rw[hq];simp)
      have hadd:=Qiu a1 n1 c1 ms a5 l5 c5 ms5 k wc ((Xo1 HR).step (Xe3 H5)) (Xo0 H5) hrq (Xo2 H5) ((Xo5 H).step (Below.next0 (Xe8 HR) (Xe3 H5)))
      rw[hmq,(Xo1 H5)] at hadd
      obtain ⟨Z,hZ⟩:∃Z,Qnj q p'=Z:=⟨_,rfl⟩
      rw[hZ] at hadd
      have heq:Q3m k none l=Qvr k (l.drop (i+1)) Z:=by
       rw[(Xo4 HR),hq,Qml (Xo7 HR),HP.out,hZ]
      have HA:=Xh3 hadd heq hZ
      clear hadd heq hq hmq hrq hi0
      clear hZ
      cases Z with
      |error er=>
       have her:(er==0)=false:=beq_eq_false_iff_ne.2 (Q6f (Xe2 HA))
       have hX:X=.error er:=by rw[<-(Xo6 H),(Xo1 HA)];rfl
       have HX:=Lib.hid hX
       clear hX
       go_wp2_with (go_at_call_of 140 (Value.slice a1 n1 c1);refine (Xo0 HA).mono ?_;rintro r w6 ⟨hb6,a6,l6,c6,rfl⟩;have H6:=Lib.hid hb6;clear hb6)
       exact ⟨rfl,.tuple #[.slice none 0 0,.int .i64 er],by simp[results,go_sem],Q19.err HX.out (Below.next0 (Below.next0 (Xe8 HR) (Xe3 H5)) H6.out)⟩
      |ok q'=>
       go_wp2_with (go_at_call_of 140 (Value.slice a1 n1 c1);refine (Xo0 HA).mono ?_;rintro r w6 ⟨hb6,a6,l6,c6,ms6,rfl,hm6,ht6,hr6⟩;have H6:=Xh4 hb6 hm6 ht6 hr6;clear hb6 hm6 ht6 hr6)
       exact ⟨⟨i+1,some q',a6,l6,c6,ms6,rfl,congrArg (Value.int .i64) (by omega),hlt,by simp,(Xo1 H6),(Xo2 H6),fun _=>(Xe3 H6),(Xo1 HA),Below.next0 (Below.next0 (Xo5 HR) (Xe3 H5)) (Xo0 H6)⟩,by simp only[intOf];omega⟩
  ·have hlt':¬((i:Int)<(n:Int)):=by omega
   have hie:i=l.length:=by omega
   have hne:acc≠none:=fun e=>by
    have:=hacc.1 e
    have:=List.length_pos_iff.2 (Xo1 H)
    omega
   rw[hie,List.drop_length,Q3m] at heq
   have HS:=Xh5 hmi hterm (hright hne) heq hbr
   clear hmi hterm hright heq hbr hacc hie hne hlen
   go_wp2_with fail
   refine ⟨rfl,.tuple #[.slice a1 n1 c1,.int .i64 0],by simp[results,go_sem],Below.next0 (Xo8 H) (Xe4 HS),?_⟩
   rw[<-(Xo6 H),(Xo3 HS)]
   exact ⟨a1,n1,c1,ms,rfl,(Xo0 HS),(Xo1 HS),(Xo2 HS)⟩
end Go.Proofs.YtdilmfakkppgpaaGreatDoor
