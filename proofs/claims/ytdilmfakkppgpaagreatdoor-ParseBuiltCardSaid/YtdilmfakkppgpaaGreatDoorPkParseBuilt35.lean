/- Part 35 of the proof of LawParseBuilt: RefStk. Condition: as each theorem says; none at the end. -/
import Derived.Test.YtdilmfakkppgpaaGreatDoorPkParseBuilt34
set_option maxRecDepth 100000
set_option maxHeartbeats 16000000
namespace Go.Proofs.YtdilmfakkppgpaaGreatDoor
open Go.RowKit WordsM DecM
theorem Q9r {l:List Q0a} {e:Int} (h:Q24 l=.error e):e≠99:=by
 unfold Q24 at h
 split at h
 ·injection h with h;omega
 ·split at h
  ·injection h with h;omega
  ·cases h
theorem Qmt {a b:List Q0a} {e:Int} (h:Q8d a b=.error e):e≠99:=by
 unfold Q8d at h
 split at h
 ·injection h with h;omega
 ·split at h
  ·injection h with h;omega
  ·exact Q9r h
theorem Qmu {p:List Q0a} {e:Int}:∀{k:Nat},Qe0 p k=.error e->e≠99
 |0,h=>by rw[Qe0] at h;cases h
 |k+1,h=>by
  rw[Qe0] at h;cases hq:Qe0 p k with
  |error x=>rw[hq] at h;injection h with h;subst h;exact Qmu hq
  |ok q=>rw[hq] at h;exact Qmt h
theorem Qon {n:Nat} {p:List Q0a} {k:Nat} {e:Int} (h:Q6a n p k=.error e):e≠99:=by
 cases k with
 |zero=>rw[Q6a] at h;cases h
 |succ k=>exact Qmu h
mutual
theorem Q9s (n:Nat):∀(x:Ex) (e:Int),Q16 n x=.error e->e≠99
 | .num none,e,h=>by rw[Q16] at h;injection h with h;omega
 | .num (some c),e,h=>by rw[Q16] at h;exact Q9r h
 | .var i,e,h=>by rw[Q16] at h;exact Q9r h
 | .sum l,e,h=>by rw[Q16] at h;exact Qd7 n l none e h
 | .prod l,e,h=>by rw[Q16] at h;exact Qd8 n l none e h
 | .pow b k,e,h=>by
   rw[Q16] at h;cases hb:Q16 n b with
   |error x=>rw[hb] at h;injection h with h;subst h;exact Q9s n b x hb
   |ok p=>rw[hb] at h;exact Qon h
theorem Qd7 (n:Nat):∀(l:List (Bool × Ex)) (acc:Option (List Q0a)) (e:Int),Q45 n acc l=.error e->e≠99
 |[],acc,e,h=>by rw[Q45] at h;cases h
 |(b,t)::r,acc,e,h=>by
  rw[Q45] at h;cases ht:Q16 n t with
  |error x=>rw[ht] at h;injection h with h;subst h;exact Q9s n t x ht
  |ok p=>
   rw[ht] at h;cases acc with
   |none=>exact Qd7 n r _ e h
   |some q=>
    simp only at h;cases hq:Qfz q (if b then Q5l p else p) with
    |error x=>rw[hq] at h;injection h with h;subst h;exact Q9r hq
    |ok q'=>rw[hq] at h;exact Qd7 n r _ e h
theorem Qd8 (n:Nat):∀(l:List Ex) (acc:Option (List Q0a)) (e:Int),Q4c n acc l=.error e->e≠99
 |[],acc,e,h=>by rw[Q4c] at h;cases h
 |t::r,acc,e,h=>by
  rw[Q4c] at h;cases ht:Q16 n t with
  |error x=>rw[ht] at h;injection h with h;subst h;exact Q9s n t x ht
  |ok p=>
   rw[ht] at h;cases acc with
   |none=>exact Qd8 n r _ e h
   |some q=>
    simp only at h;cases hq:Q8d q p with
    |error x=>rw[hq] at h;injection h with h;subst h;exact Qmt hq
    |ok q'=>rw[hq] at h;exact Qd8 n r _ e h
end
def Qal (w:World):List (List Q01)->LV->Prop
 |[],xs=>xs=[]
 |ms::r,xs=>∃p l d ys,xs=.slice p l d::ys/\Q08 w p l d ms/\Qal w r ys
theorem Qal.len {w:World}:∀{F:List (List Q01)} {xs:LV},Qal w F xs->xs.length=F.length
 |[],_,h=>by cases h;rfl
 |_::r,_,⟨_,_,_,ys,rfl,_,h⟩=>by rw[Uz,Uz,Qal.len h]
theorem Qal.one {w:World}:∀{F:List (List Q01)} {xs:LV},Qal w F xs->∀u∈xs,u.oneCell'=true
 |[],_,h,u,hu=>by cases h;cases hu
 |_::r,_,⟨_,_,_,ys,rfl,_,h⟩,u,hu=>by
  rcases UF.1 hu with rfl|hu
  ·rfl
  ·exact Qal.one h u hu
theorem Qal.app {w:World} {G:List (List Q01)} {ys:LV} (h':Qal w G ys):∀{F:List (List Q01)} {xs:LV},Qal w F xs->Qal w (F++G) (xs++ys)
 |[],_,h=>by cases h;exact h'
 |_::r,_,⟨p,l,d,zs,rfl,hg,h⟩=>⟨p,l,d,zs++ys,rfl,hg,Qal.app h' h⟩
theorem Qal.step {w w':World} (hb:Bw w w'):∀{F:List (List Q01)} {xs:LV},Qal w F xs->Qal w' F xs
 |[],_,h=>h
 |_::_,_,⟨p,l,d,zs,hx,hg,h⟩=>⟨p,l,d,zs,hx,hg.step hb,Qal.step hb h⟩
theorem Qal.get {w:World}:∀{F:List (List Q01)} {xs:LV} {j:Nat} {ms:List Q01},Qal w F xs->F[j]?=some ms->∃p l d,xs[j]?=some (.slice p l d)/\Q08 w p l d ms
 |[],_,j,_,_,h=>by simp at h
 |_::r,_,0,ms,⟨p,l,d,ys,rfl,hg,h⟩,hj=>by
  simp only[UI,Un] at hj;subst hj;exact ⟨p,l,d,rfl,hg⟩
 |_::r,_,j+1,ms,⟨p,l,d,ys,rfl,hg,h⟩,hj=>by
  obtain ⟨p',l',d',h1,h2⟩:=Qal.get (j:=j) h (by simpa using hj);exact ⟨p',l',d',by simpa using h1,h2⟩
theorem Qal.of {w:World} {b:Nat}:∀{F:List (List Q01)} {o:Nat},(∀j ms,F[j]?=some ms->∃p l d,w.cell? ⟨b,o+j,none⟩=some (.slice p l d)/\Q08 w p l d ms)->∃xs,Qal w F xs/\∀j u,xs[j]?=some u->w.cell? ⟨b,o+j,none⟩=some u
 |[],o,_=>⟨[],rfl,fun j u h=>by simp at h⟩
 |ms::r,o,h=>by
  obtain ⟨ys,R8,O9⟩:=Qal.of (F:=r) (o:=o+1) (fun j ms' hm=>by have:=h (j+1) ms' (by simpa using hm);rwa[show o+(j+1)=o+1+j by omega] at this);obtain ⟨p,l,d,h0,h1⟩:=h 0 ms rfl;refine ⟨.slice p l d::ys,⟨p,l,d,ys,rfl,h1,R8⟩,fun j u hj=>?_⟩;cases j with
  |zero=>simp at hj;rw[<-hj];exact h0
  |succ j=>
   have:=O9 j u (by simpa using hj);rwa[show o+1+j=o+(j+1) by omega] at this
theorem Qsk {w0 w:World} {B n c:Nat} {a:OA} {xs:LV} {F:List (List Q01)} {T:TypeId} (hr:Row w B T 1 a n c xs) (he:Qal w F xs):Q2t w a n c F:=by
 have V3:=hr.cap;have hl:F.length=n:=by have h1:=hr.len;have h2:=he.len;omega
 refine ⟨hl,V3.1,by have:=V3.2;simpa[maxLen] using this,?_⟩;rcases hr.form with ⟨_,h0,_⟩|⟨g,cur,rfl,_,B0,_⟩
 ·exact .inl (Tg (by omega))
 ·refine .inr ⟨g,0,rfl,B0,fun j ms hm=>?_⟩;obtain ⟨p,l,d,h1,h2⟩:=he.get hm;exact ⟨p,l,d,by rw[UB];exact hr.cell0 h1,h2⟩
theorem Q8v:Tryz.prog.underlying 22=some (.slice 25):=by kernel_rfl
theorem Qj1:Tryz.prog.underlying 22=some (.slice (Tryz.prog.elem 22)):=by kernel_rfl
theorem Qoo (w:World):(sizeOf (Tryz.prog.elem 22)).run Tryz.prog w=.ok 1 w:=by kernel_rfl
theorem Qsl (w:World) (a:OA) (n c k:Nat) (h2:k<=c):
 (Instr.slice 22 (.slice a n c) none (some (.int .i64 (k:Int))) none).run Tryz.prog w=.ok (.slice a k c) w:=by
 rw[run_slice_h w _ a n c Qj1 .i64 (k:Int) (by omega) (by omega),Qoo];have:=Q8y a c 1
 show Result.ok (Value.slice (Qoz a c 0 1) _ _) w=_
 rw[this,Xbz,Xbz,Xa6]
theorem Qj2 (W:World):(Instr.buildSlice 22 0 #[]).run Tryz.prog W=.ok (.slice (some ⟨W.heap.size,0,none⟩) 0 0) (W.alloc (.cells #[] 25)):=by
 simp[Instr.buildSlice,run_underlying Q8v,Instr.fill,newRow];exact congrArg (fun c=>W.alloc (Obj.cells c 25)) (by simp)
theorem Qb1 (ty:TypeId) (w0 w:World) (hb:Bw w0 w) (a:OA) (n c:Nat) (xs:LV) (hr:Row w w0.heap.size 25 1 a n c xs) (b:OA) (m d:Nat) (ys:LV) (hl:ys.length=m) (hy:m=0∨∃x,b=some x/\∀j u,ys[j]?=some u->w.cell? (x.add j)=some u) (h1:∀u∈ys,u.oneCell'=true) (hn:n+m<=100000000):
 ∃a' c' w',(Builtin.append_ #[22,22] ty #[.slice a n c,.slice b m d]).run Tryz.prog w=.ok (.slice a' (n+m) c') w'/\Row w' w0.heap.size 25 1 a' (n+m) c' (xs++ys)/\Bw w0 w':=by
 obtain ⟨i0,O1,P1,K1,J1⟩:=Q0l Qag;rcases TQ m with rfl|hm
 ·obtain rfl:ys=[]:=UH.1 hl;exact ⟨a,c,w,Q72 w _ ty _ i0 Q8v O1 a b n c d hr.cap.1,by simpa using hr,hb⟩
 ·rcases hy with h0|⟨x,rfl,hx⟩
  ·omega
  obtain ⟨a',c',w',I1,I0,m7,N0,_⟩:=Q1u w0 w ty 22 25 i0 _ 1 24 Q8v O1 P1 K1 J1 rfl (by decide) w0.heap.size hb hb.size a n c xs hr x m d ys (by rw[hl,Xbx]) hx h1 (n+m) rfl (by omega) (by omega);exact ⟨a',c',w',I1,I0,N0⟩
theorem Qop {U:World} {a:OA} {n c:Nat} {F:List (List Q01)} (hF:Q2t U a n c F) (q:Nat) (hq:q<=n) (hn:n<=10000000) {p:OA} {l d:Nat} {ms:List Q01} (hm:Q08 U p l d ms) (ty:TypeId):
 ∃a7 c7 w7,(Builtin.append_ #[22,22] ty #[.slice (some ⟨U.heap.size,0,none⟩) 0 0,.slice a q c]).run Tryz.prog (U.alloc (.cells #[] 25))=.ok (.slice a7 q c7) w7/\
  ∃a8 c8 w8,(Builtin.append_ #[22,22] ty #[.slice a7 q c7,.slice (some ⟨w7.heap.size,0,none⟩) 1 1]).run Tryz.prog (w7.alloc (.cells #[.slice p l d] 25))=.ok (.slice a8 (q+1) c8) w8/\Q2t w8 a8 (q+1) c8 (F.take q++[ms])/\Bw U w8:=by
 have C4:Bw U (U.alloc (.cells #[] 25)):=Ba;obtain ⟨xs,U4,J4⟩:∃xs,Qal U (F.take q) xs/\(q=0∨∃x,a=some x/\∀j u,xs[j]?=some u->U.cell? (x.add j)=some u/\x.block<U.heap.size):=by
  obtain ⟨h1,h2,h3,h4⟩:=hF;rcases h4 with rfl|⟨b,o,rfl,F3,R1⟩
  ·have:q=0:=(by simp at h1;omega);subst this;exact ⟨[],rfl,.inl rfl⟩
  ·obtain ⟨xs,U4,J4⟩:=Qal.of (w:=U) (b:=b) (F:=F.take q) (o:=o) (fun j ms' hj=>R1 j ms' (by rw[To] at hj;split at hj <;> first|exact hj|cases hj));exact ⟨xs,U4,.inr ⟨_,rfl,fun j u hj=>⟨by rw[Xao];exact J4 j u hj,F3⟩⟩⟩
 have J3:xs.length=q:=by rw[U4.len,Tn,hF.1];omega
 obtain ⟨a7,c7,w7,i7,ZE,F7⟩:=Qb1 ty U _ C4 _ 0 0 [] (Qiz U U.heap.size (Ug _) _ _) a q c xs J3 (by
  rcases J4 with h0|⟨x,hx,hxc⟩
  ·exact .inl h0
  ·exact .inr ⟨x,hx,fun j u hj=>by
    obtain ⟨h1,h2⟩:=hxc j u hj;have E3:(x.add j).block<U.heap.size:=US h1;exact (UX _ _ _ E3).trans h1⟩) (fun u hu=>U4.one u hu) (by omega)
 rw[UB] at i7 ZE;have B4:Bw U (w7.alloc (.cells #[.slice p l d] 25)):=F7.alloc F7.size _;have T4:Bw w7 (w7.alloc (.cells #[.slice p l d] 25)):=Ba;obtain ⟨a8,c8,w8,I2,D5,hb8'⟩:=Qb1 ty U _ B4 a7 q c7 _ (ZE.call T4) (some ⟨w7.heap.size,0,none⟩) 1 1 [.slice p l d] rfl (.inr ⟨_,rfl,fun j u hj=>by
  rw[Xao,UB,Ux _ _ _ _ _ _ (Ul _ _)];simpa using hj⟩) (by simp[Value.oneCell']) (by omega)
 have JF:Qal U [ms] [.slice p l d]:=⟨p,l,d,[],rfl,hm,rfl⟩;exact ⟨a7,c7,w7,i7,a8,c8,w8,I2,Qsk (w0:=U) D5 ((Qal.app JF U4).step hb8'),hb8'⟩
theorem Qv1 (n:Nat) (x:Ex):Q4y n (Q1i x) []≠.error 99:=by
 rw[Qmq];cases h:Q16 n x with
 |error e=>intro h2;injection h2 with h2;exact Q9s n x e h h2
 |ok P=>intro h2;cases h2
end Go.Proofs.YtdilmfakkppgpaaGreatDoor
