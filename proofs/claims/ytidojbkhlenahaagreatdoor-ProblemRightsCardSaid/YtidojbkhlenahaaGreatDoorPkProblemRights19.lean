/- Part 19. No condition. -/
import Derived.Test.YtidojbkhlenahaaGreatDoorPkProblemRights18
set_option maxRecDepth 100000
set_option maxHeartbeats 16000000
namespace Go.Proofs.YtidojbkhlenahaaGreatDoor
open Go.RowKit WordsM DecM
def Q5m (w:World) (R B i at_:Nat) (p:RpP) (x:RpV) (st:PrS) (l:LU) (r:Ending) (w':World):Prop:=∃p' x',Q62 w' R B p' x'/\Kp R B w w'/\
 match Q4v i at_ l st with
 |none=>r=.returned (.bool false)/\(6<=i->p'=p/\∃o,x'={ x with over:=o })
 |some st'=>r=.returned (.bool true)/\StM x' st'
theorem Q5m.yn {w w':World} {R B i at_:Nat} {p:RpP} {x:RpV} {st:PrS} {l:LU} {r:Ending} (h:Q5m w R B i at_ p x st l r w'):∃b,r=.returned (.bool b)/\Q5m w R B i at_ p x st l (.returned (.bool b)) w':=by
 have h0:=h;obtain ⟨p',x',_,_,hm⟩:=h;cases hl:Q4v i at_ l st with
 |none=>rw[hl] at hm;obtain ⟨rfl,_⟩:=hm;exact ⟨_,rfl,h0⟩
 |some st'=>rw[hl] at hm;obtain ⟨rfl,_⟩:=hm;exact ⟨_,rfl,h0⟩
theorem Qpo {i p:Nat} {l:LU} {st:PrS} (hi:6<=i):Q4v i p l st=if st.box.length<4 then (Qex l).map fun b=>{ st with box:=st.box++[b],over:=Q5q (Q5q st.over p b.1) p b.2 } else none:=by
 unfold Q4v
 match i,hi with
 |6,_=>rfl
 |n+7,_=>rfl
theorem Qdy {w w':World} {R B i at_ o:Nat} {p:RpP} {x:RpV} {st:PrS} {l wd:LU} {r:Ending} (ux:RpV->Int->RpV) (us:PrS->Nat->PrS) (hI:Q62 w R B p x) (hR:R<B) (hB:B<=w.heap.size) (ho:o<15) (hi:i<6)
 (h1:∀n:Int,rpL p (ux x n)=(rpL p x).set o (.int .i64 n)) (h2:∀(W:World) (n:Int),Q78 W B p x->Q78 W B p (ux x n)) (h3:∀n:Nat,StM (ux x (n:Int)) (us st n)) (hm:Q4v i at_ l st=((Q5p wd l).bind Q2t).map fun n=>us st n)
 (h:Q6j w R o ((Q5p wd l).bind Q2t) r w'):Q5m w R B i at_ p x st l r w':=by
 unfold Q5m;rw[hm];cases hX:(Q5p wd l).bind Q2t with
 |none=>
  rw[hX] at h;obtain ⟨rfl,hb⟩:=h;exact ⟨p,x,hI.step hb,Kp.of_below hb hB,rfl,fun h=>by omega⟩
 |some n=>
  rw[hX] at h;obtain ⟨rfl,w1,hb,rfl⟩:=h;have G8:=hI.step hb;have K0:o<(rpL p x).length:=by simpa[rpL] using ho
  have O5:=G8.blk.set K0 (.int .i64 (n:Int));rw[<-h1] at O5;have hr:=h2 _ (n:Int) (G8.rest.set (i:=o) G8.blk K0 (Q72 _ _) hR (.int .i64 (n:Int)));exact ⟨p,ux x n,⟨O5,hr.box,hr.t,hr.m,hr.e⟩,(Kp.of_below hb hB).trans (Kp.set _ (.inl rfl) _),rfl,h3 n⟩
theorem Qdz {w w':World} {R B i at_ o:Nat} {p:RpP} {x:RpV} {st:PrS} {l wd:LU} {r:Ending} (up:RpP->Pl->RpP) (ux:RpV->Q39->RpV) (us:PrS->Option Dyadic->PrS) (hI:Q62 w R B p x) (hR:R<B) (hB:B<=w.heap.size) (Y0:StM x st) (ho:o+2<14) (hi:i<6)
 (h1:∀x n e a l c L,rpL (up p ⟨a,l,c⟩) (ux x ⟨n,e,L⟩)=(((rpL p x).set o (.bool n)).set (o+1) (.int .i64 e)).set (o+2) (.slice a l c)) (h2:∀(W:World) x q nv,Q78 W B p x->Q0i W q.a q.l q.c nv->Q78 W B (up p q) (ux x nv))
 (h3:∀nv d ov ov',Qng nv d->Qeg ov ov'->StM (ux { x with over:=ov } nv) { us st d with over:=ov' }) (hm:Q4v i at_ l st=((Q5p wd l).bind Qga).map fun d=>{ us st d with over:=Q5q st.over at_ d })
 (h:Qt9 w R at_ R o x.over (Q5p wd l) r w'):Q5m w R B i at_ p x st l r w':=by
 unfold Q5m;rw[hm];cases hX:Q5p wd l with
 |none=>
  rw[hX] at h;obtain ⟨rfl,rfl⟩:=h;exact ⟨p,x,hI,Kp.refl _ _ _,rfl,fun h=>by omega⟩
 |some t=>
  rw[hX] at h;obtain ⟨n,e,a,l,c,L,er,w1,rfl,P6,hb,hw,rfl⟩:=h;have hx:=Q28 P6;have G8:=hI.step hb;have X6:Q0i w1 a l c ⟨n,e,L⟩:=⟨hw,hx.1.1,hx.1.2⟩;have J2:=Kp.of_below (R:=R) hb hB;have hRl:(14:Nat)<(rpL p x).length:=by simp[rpL]
  have X2:∀(W:World) (ov:Int),Q62 W R B p { x with over:=ov }->Q0i W a l c ⟨n,e,L⟩->Kp R B w W->((er != 5)=false∨∃d,Qga t=some d/\(er != 5)=true/\Qng ⟨n,e,L⟩ d/\Qeg ov (Q5q st.over at_ d))->
   ∃p' x',Q62 (Q36 W R o n e (.slice a l c)) R B p' x'/\Kp R B w (Q36 W R o n e (.slice a l c))/\(((er != 5)=false)∨∃d,Qga t=some d/\(er != 5)=true/\StM x' { us st d with over:=Q5q st.over at_ d }):=by
   intro W ov hz hNW hkW hd;have K0:o+2<(rpL p { x with over:=ov }).length:=(by simp[rpL];omega);have O5:=hz.blk.store K0 n e (.slice a l c);rw[<-h1] at O5;have hr:=h2 _ _ ⟨a,l,c⟩ _ (hz.rest.num hz.blk K0 (Q72 _ _) hR n e a l c) (hNW.store hz.blk K0 (Q72 _ _) n e (.slice a l c));refine ⟨_,_,⟨O5,hr.box,hr.t,hr.m,hr.e⟩,hkW.trans (Kp.num W (.inl rfl) n e _),?_⟩;rcases hd with hd|⟨d,hd,h5,h6,h7⟩
   ·exact .inl hd
   ·exact .inr ⟨d,hd,h5,h3 _ _ _ _ h6 h7⟩
  have Wh:((er != 5)=false/\Qga t=none)∨∃d,Qga t=some d/\(er != 5)=true/\Qng ⟨n,e,L⟩ d/\Qeg (if er=2/\x.over<0 then (at_:Int) else x.over) (Q5q st.over at_ d):=by
   rcases hx.2 with ⟨h5,rfl⟩|⟨d,h5,h6,h7⟩
   ·exact .inl ⟨rfl,h5⟩
   ·refine .inr ⟨d,h5,?_,h6,Qaq Y0.over h7 at_⟩;rcases h7 with ⟨_,rfl⟩|⟨_,rfl⟩ <;> rfl
  have hW:∃W,(if er=2/\x.over<0 then w1.setCell ⟨R,14,none⟩ (.int .i64 (at_:Int)) else w1)=W/\Q62 W R B p { x with over:=if er=2/\x.over<0 then (at_:Int) else x.over }/\Q0i W a l c ⟨n,e,L⟩/\Kp R B w W:=by
   by_cases hc:er=2/\x.over<0
   ·rw[Uu hc,Uu hc];exact ⟨_,rfl,G8.over hR (at_:Int),X6.blk G8.blk hRl (Q72 _ _) _,J2.trans (Kp.set _ (.inl rfl) _)⟩
   ·rw[Us hc,Us hc];exact ⟨_,rfl,G8,X6,J2⟩
  obtain ⟨W,hWe,hz,hNW,hkW⟩:=hW;rw[hWe];obtain ⟨p',x',hr,hk,hd⟩:=X2 W _ hz hNW hkW (Wh.imp (fun h=>h.1) id);refine ⟨p',x',hr,hk,?_⟩;rw[TF];rcases Wh with ⟨h5,h6⟩|⟨d,h5,h6,_⟩
  ·rw[h6,h5];exact ⟨rfl,fun h=>by omega⟩
  ·rcases hd with hd|⟨d',Y7,_,hs⟩
   ·rw[h6] at hd;cases hd
   ·rw[Y7,h6];exact ⟨rfl,hs⟩
theorem Qpp (R B i at_:Nat) (p:RpP) (x:RpV) (st:PrS) (s:ByteArray) (w:World) (hs:s.size<=1000000) (hT:∀W,Kp R B w W->Q1s W) (hI:Q62 w R B p x) (hR:R<B) (hB:B<=w.heap.size) (Y0:StM x st):
 Calls Tryz.prog 83 #[.pointer (some ⟨R,0,none⟩),.int .i64 (i:Int),.int .i64 (at_:Int),.string s] w (Q5m w R B i at_ p x st s.data.toList):=by
 have u5:∀(wd:LU) (o:Nat),wd.length<=100->o<15->Calls Tryz.prog 125 #[.string s,.string ⟨wd.toArray⟩,.pointer (some ⟨R,o,none⟩)] w (Q6j w R o ((Q5p wd s.data.toList).bind Q2t)):=fun wd o hw ho=>by
  have K0:o<(rpL p x).length:=by simpa[rpL] using ho
  exact Qpl s wd R o _ w hs hw (hI.blk.c o _ (Ub K0)) (hI.blk.f o K0)
 have W9:∀(wd:LU) (o:Nat),wd.length<=100->o+2<14->Calls Tryz.prog 126 #[.pointer (some ⟨R,0,none⟩),.int .i64 (at_:Int),.string s,.string ⟨wd.toArray⟩,.pointer (some ⟨R,o,none⟩)] w (Qt9 w R at_ R o x.over (Q5p wd s.data.toList)):=fun wd o hw ho=>
  Qlz R at_ R o x.over s wd w hs hw (hT w (Kp.refl _ _ _)) (hI.blk.c 14 _ rfl) (hI.blk.f 14 (by simp[rpL])) (hI.blk.num (by simp[rpL];omega)) (.inr ho)
 by_cases hi:i<6
 ·have h0:i=0∨i=1∨i=2∨i=3∨i=4∨i=5:=by omega
  rcases h0 with rfl|rfl|rfl|rfl|rfl|rfl
  ·have hc:=(u5 Qbd 11 (by decide) (by decide)).mono fun r w' h=>Q5m.yn (Qdy (i:=0) (at_:=at_) (o:=11) (l:=s.data.toList) (wd:=Qbd) (fun x n=>{ x with prec:=n }) (fun st n=>{ st with prec:=n }) hI hR hB (by decide) (by decide) (fun _=>rfl) (fun _ _ h=>⟨h.box,h.t,h.m,h.e⟩) (fun n=>⟨rfl,Y0.order,Y0.budget,Y0.til,Y0.most,Y0.least,Y0.len,Y0.box,Y0.over⟩) rfl h);generalize hK:Q5m w R B 0 at_ p x st s.data.toList=K at hc⊢;clear hK u5 W9 hT Y0
   go_enter Tryz.func83,Tryz.ntmps83
   go_wp2_with (go_at_call 125;refine hc.mono ?_;rintro r w1 ⟨b,rfl,hk⟩;have HK:=Ua hk;clear hk)
   exact HK.out
  ·have hc:=(u5 Q74 12 (by decide) (by decide)).mono fun r w' h=>Q5m.yn (Qdy (i:=1) (at_:=at_) (o:=12) (l:=s.data.toList) (wd:=Q74) (fun x n=>{ x with order:=n }) (fun st n=>{ st with order:=n }) hI hR hB (by decide) (by decide) (fun _=>rfl) (fun _ _ h=>⟨h.box,h.t,h.m,h.e⟩) (fun n=>⟨Y0.prec,rfl,Y0.budget,Y0.til,Y0.most,Y0.least,Y0.len,Y0.box,Y0.over⟩) rfl h);generalize hK:Q5m w R B 1 at_ p x st s.data.toList=K at hc⊢;clear hK u5 W9 hT Y0
   go_enter Tryz.func83,Tryz.ntmps83
   go_wp2_with (go_at_call 125;refine hc.mono ?_;rintro r w1 ⟨b,rfl,hk⟩;have HK:=Ua hk;clear hk)
   exact HK.out
  ·have hc:=(u5 Q4n 13 (by decide) (by decide)).mono fun r w' h=>Q5m.yn (Qdy (i:=2) (at_:=at_) (o:=13) (l:=s.data.toList) (wd:=Q4n) (fun x n=>{ x with budget:=n }) (fun st n=>{ st with budget:=n }) hI hR hB (by decide) (by decide) (fun _=>rfl) (fun _ _ h=>⟨h.box,h.t,h.m,h.e⟩) (fun n=>⟨Y0.prec,Y0.order,rfl,Y0.til,Y0.most,Y0.least,Y0.len,Y0.box,Y0.over⟩) rfl h);generalize hK:Q5m w R B 2 at_ p x st s.data.toList=K at hc⊢;clear hK u5 W9 hT Y0
   go_enter Tryz.func83,Tryz.ntmps83
   go_wp2_with (go_at_call 125;refine hc.mono ?_;rintro r w1 ⟨b,rfl,hk⟩;have HK:=Ua hk;clear hk)
   exact HK.out
  ·have hc:=(W9 Q75 2 (by decide) (by decide)).mono fun r w' h=>Q5m.yn (Qdz (i:=3) (at_:=at_) (o:=2) (l:=s.data.toList) (wd:=Q75) (fun p q=>{ p with t:=q }) (fun x n=>{ x with til:=n }) (fun st d=>{ st with til:=d }) hI hR hB Y0 (by decide) (by decide) (fun _ _ _ _ _ _ _=>rfl) (fun _ _ _ _ h h1=>⟨h.box,h1,h.m,h.e⟩) (fun _ _ _ _ h1 h2=>⟨Y0.prec,Y0.order,Y0.budget,h1,Y0.most,Y0.least,Y0.len,Y0.box,h2⟩) rfl h);generalize hK:Q5m w R B 3 at_ p x st s.data.toList=K at hc⊢;clear hK u5 W9 hT Y0
   go_enter Tryz.func83,Tryz.ntmps83
   go_wp2_with (go_at_call 126;refine hc.mono ?_;rintro r w1 ⟨b,rfl,hk⟩;have HK:=Ua hk;clear hk)
   exact HK.out
  ·have hc:=(W9 Qct 5 (by decide) (by decide)).mono fun r w' h=>Q5m.yn (Qdz (i:=4) (at_:=at_) (o:=5) (l:=s.data.toList) (wd:=Qct) (fun p q=>{ p with m:=q }) (fun x n=>{ x with most:=n }) (fun st d=>{ st with most:=d }) hI hR hB Y0 (by decide) (by decide) (fun _ _ _ _ _ _ _=>rfl) (fun _ _ _ _ h h1=>⟨h.box,h.t,h1,h.e⟩) (fun _ _ _ _ h1 h2=>⟨Y0.prec,Y0.order,Y0.budget,Y0.til,h1,Y0.least,Y0.len,Y0.box,h2⟩) rfl h);generalize hK:Q5m w R B 4 at_ p x st s.data.toList=K at hc⊢;clear hK u5 W9 hT Y0
   go_enter Tryz.func83,Tryz.ntmps83
   go_wp2_with (go_at_call 126;refine hc.mono ?_;rintro r w1 ⟨b,rfl,hk⟩;have HK:=Ua hk;clear hk)
   exact HK.out
  ·have hc:=(W9 Q7k 8 (by decide) (by decide)).mono fun r w' h=>Q5m.yn (Qdz (i:=5) (at_:=at_) (o:=8) (l:=s.data.toList) (wd:=Q7k) (fun p q=>{ p with e:=q }) (fun x n=>{ x with least:=n }) (fun st d=>{ st with least:=d }) hI hR hB Y0 (by decide) (by decide) (fun _ _ _ _ _ _ _=>rfl) (fun _ _ _ _ h h1=>⟨h.box,h.t,h.m,h1⟩) (fun _ _ _ _ h1 h2=>⟨Y0.prec,Y0.order,Y0.budget,Y0.til,Y0.most,h1,Y0.len,Y0.box,h2⟩) rfl h);generalize hK:Q5m w R B 5 at_ p x st s.data.toList=K at hc⊢;clear hK u5 W9 hT Y0
   go_enter Tryz.func83,Tryz.ntmps83
   go_wp2_with (go_at_call 126;refine hc.mono ?_;rintro r w1 ⟨b,rfl,hk⟩;have HK:=Ua hk;clear hk)
   exact HK.out
 ·have h0:((i:Int)==0)=false:=by rw[Uj];omega
  have h1:((i:Int)==1)=false:=by rw[Uj];omega
  have h2:((i:Int)==2)=false:=by rw[Uj];omega
  have h3:((i:Int)==3)=false:=by rw[Uj];omega
  have h4:((i:Int)==4)=false:=by rw[Uj];omega
  have h5:((i:Int)==5)=false:=by rw[Uj];omega
  have x6:=Qpo (p:=at_) (l:=s.data.toList) (st:=st) (Nat.le_of_not_lt hi);have k1:=hI.blk.c 1 _ rfl;have V5:st.box.length=p.b.l:=Y0.len.symm.trans hI.box.len
  by_cases h4b:st.box.length<4
  ·have hc:=(Qeh R B at_ p x st s w hs hT hI hR hB Y0 h4b).mono fun r w' h=>Q5m.yn (i:=i) (by
    obtain ⟨p',x',g1,g2,g3⟩:=h;refine ⟨p',x',g1,g2,?_⟩;rw[x6,Uu h4b];cases hX:(Qex s.data.toList).map (fun b=>({ st with box:=st.box++[b],over:=Q5q (Q5q st.over at_ b.1) at_ b.2 }:PrS)) with
    |none=>rw[hX] at g3;exact ⟨g3.1,fun _=>g3.2⟩
    |some st'=>rw[hX] at g3;exact g3)
   generalize hK:Q5m w R B i at_ p x st s.data.toList=K at hc⊢;have Jq:(p.b.l:Int)<4:=(by omega);clear hK u5 W9 hT Y0 x6 hi V5 h4b
   go_enter Tryz.func83,Tryz.ntmps83
   go_wp2_with (go_at_call 127;refine hc.mono ?_;rintro r w1 ⟨b,rfl,hk⟩;have HK:=Ua hk;clear hk)
   exact HK.out
  ·have X2:Q5m w R B i at_ p x st s.data.toList (.returned (.bool false)) w:=⟨p,x,hI,Kp.refl _ _ _,by rw[x6,Us h4b];exact ⟨rfl,fun _=>⟨rfl,x.over,rfl⟩⟩⟩;have HF:=Ua X2;have Jq:¬(p.b.l:Int)<4:=(by omega);clear X2 u5 W9 hT Y0 x6 hi V5 h4b
   go_enter Tryz.func83,Tryz.ntmps83
   go_wp2_with fail
   go_ret;exact HF.out
open Go.Shelf
attribute [local go_sem] Oper.semAt_some
structure Sm (w w':World):Prop where
 size:w.heap.size<=w'.heap.size
 keep:∀(k:Nat) (o:Obj),w.heap[k]?=some o->o.isCells=true->w'.heap[k]?=w.heap[k]?
theorem Sm.of_turn {w w':World} {row:Option Nat} (hg:w.grownBy w' row) (hr:∀r,row=some r->∃o:Obj,w.heap[r]?=some o/\o.isCells=false):Sm w w':=
 ⟨hg.size,fun k o hk ho=>hg.block k (Uq.1 hk).1 (fun e=>by
   obtain ⟨o',h1,h2⟩:=hr k e.symm;rw[hk] at h1;injection h1 with h1;subst h1;rw[ho] at h2;cases h2)⟩
theorem Sm.block {w w':World} (h:Sm w w') {p:Addr} {v:Value} (hp:w.cell? p=some v):w'.heap[p.block]?=w.heap[p.block]?:=by
 obtain ⟨o,h1,h2⟩:=cells_of_cell hp;exact h.keep _ o h1 h2
theorem Sm.cell {w w':World} (h:Sm w w') {p:Addr} {v:Value} (hp:w.cell? p=some v):w'.cell? p=some v:=(UR (h.block hp)).trans hp
theorem Q0i.sm {w w':World} {a:OA} {l c:Nat} {x:Q39} (h:Q0i w a l c x) (hs:Sm w w'):Q0i w' a l c x:=by
 refine ⟨⟨h.lie.len,h.lie.cap,h.lie.most,h.lie.low,?_⟩,h.lo,h.hi⟩;rcases h.lie.rd with h0|⟨b,o,rfl,hb,hc⟩
 ·exact .inl h0
 ·exact .inr ⟨b,o,rfl,Ue hb hs.size,fun j y hy=>hs.cell (hc j y hy)⟩
theorem Blk.sm {w w':World} {b:Nat} {v:Value} {vs:LV} (h:Blk w b (v::vs)) (hs:Sm w w'):Blk w' b (v::vs):=h.same (hs.block (h.c 0 v rfl))
theorem Q4o.sm {w w':World} {B:Nat} {p:Pl} {L:List IvV} (h:Q4o w B p L) (hs:Sm w w'):Q4o w' B p L:=by
 obtain ⟨xs,hr⟩:=h.row;refine ⟨⟨xs,hr.keep fun x hx=>?_⟩,h.len,fun j x hx=>?_⟩
 ·rcases hr.1.form with ⟨h0,_⟩|⟨g,cur,h0,_,_,hh,_⟩
  ·rw[h0] at hx;cases hx
  ·rw[h0] at hx;injection hx with hx;subst hx;exact hs.keep _ _ hh rfl
 ·obtain ⟨g,ha,a,l,c,a2,m,d,⟨h0,h1,h2,h3,h4,h5⟩,h6,h7⟩:=h.ent j x hx;exact ⟨g,ha,a,l,c,a2,m,d,⟨hs.cell h0,hs.cell h1,hs.cell h2,hs.cell h3,hs.cell h4,hs.cell h5⟩,h6.sm hs,h7.sm hs⟩
theorem Q62.sm {w w':World} {R B:Nat} {p:RpP} {x:RpV} (h:Q62 w R B p x) (hs:Sm w w'):Q62 w' R B p x:=⟨h.blk.sm hs,h.box.sm hs,h.t.sm hs,h.m.sm hs,h.e.sm hs⟩
theorem Q0i.one {w:World} {p:Addr} {v0:Value} {a:OA} {l c:Nat} {x:Q39} (h:Q0i w a l c x) (hb:w.cell? p=some v0) (hn:NoU v0) (v:Value):Q0i (w.setCell p v) a l c x:=⟨h.lie.set1 hb hn v,h.lo,h.hi⟩
theorem Q62.box1 {w:World} {R B b:Nat} {p:RpP} {x:RpV} (h:Q62 w R B p x) {v0:Value} (hb:Box w b v0) (hn:NoU v0) (P0:b≠R) (hbB:b<B) (v:Value):Q62 (w.setCell ⟨b,0,none⟩ v) R B p x:=by
 refine ⟨h.blk.far P0 v,?_,h.t.one hb.1 hn v,h.m.one hb.1 hn v,h.e.one hb.1 hn v⟩;obtain ⟨xs,hr⟩:=h.box.row;have i4:∀y,p.b.a=some y->y.block≠b:=fun y hy=>by have:=(h.box.lt hy).1;omega
 refine ⟨⟨xs,hr.keep fun x hx=>Td _ _ _ _ (i4 x hx)⟩,h.box.len,fun j x hx=>?_⟩;obtain ⟨g,ha,a,l,c,a2,m,d,⟨h0,h1,h2,h3,h4,h5⟩,h6,h7⟩:=h.box.ent j x hx;have hc:∀k u,w.cell? ⟨g,k,none⟩=some u->(w.setCell ⟨b,0,none⟩ v).cell? ⟨g,k,none⟩=some u:=fun k u hu=>(UR (w:=w) (a:=⟨g,k,none⟩) (Td _ _ _ _ (i4 _ ha))).trans hu;exact ⟨g,ha,a,l,c,a2,m,d,⟨hc _ _ h0,hc _ _ h1,hc _ _ h2,hc _ _ h3,hc _ _ h4,hc _ _ h5⟩,h6.one hb.1 hn v,h7.one hb.1 hn v⟩
theorem Box.kp {w w':World} {R B b:Nat} {v:Value} (h:Box w b v) (hk:Kp R B w w') (h1:b<B) (h2:b≠R):Box w' b v:=⟨(UR (hk.block b h1 h2)).trans h.1,(Xao (hk.block b h1 h2)).trans h.2⟩
def TopR (w:World) (R:Nat) (s:LU) (e:Ending) (w':World):Prop:=∃B p x,Q62 w' R B p x/\Kp R w.heap.size w w'/\R<B/\
 match Qey s (s.length+1) 0 0 PrS.empty with
 | .error (q,er)=>e=.returned (.tuple #[.int .i64 (q:Int),.bool false])/\er=5
 | .ok (q,st)=>e=.returned (.tuple #[.int .i64 (q:Int),.bool true])/\StM x st/\Qvw st/\q<=s.length
structure Qzn (w:World) (R B:Nat) (s:LU) (i q:Nat) (p:RpP) (x:RpV) (st:PrS) (U:World):Prop where
 rd:Q62 U R B p x
 sm:StM x st
 at_:Qdv s i q st
 kp:Kp R w.heap.size w U
 b0:Box U w.heap.size (.pointer (some ⟨R,0,none⟩))
 b1:Box U (w.heap.size+1) (.int .i64 0)
 b2:Box U (w.heap.size+1+1) (.bool false)
 b3:Box U (w.heap.size+1+1+1) (.int .i64 (i:Int))
 b4:Box U (w.heap.size+1+1+1+1) (.int .i64 (q:Int))
def Qzz (w:World) (R B:Nat) (s:LU) (U:World):Prop:=∃i q p x st,Q62 U R B p x/\(6<i->StM x st/\Qvw st)/\q<=s.length/\Qey s (s.length+1) 0 0 PrS.empty=(if 6<i then .ok (q,st) else .error (q,5))/\Kp R w.heap.size w U/\Box U (w.heap.size+1) (.int .i64 (q:Int))/\Box U (w.heap.size+1+1) (.bool (decide (6<i)))
theorem Kp.mono {R B B':Nat} {w w':World} (h:Kp R B w w') (hB:B'<=B):Kp R B' w w':=⟨h.os,h.tape,h.output,h.size,fun k h1 h2=>h.block k (by omega) h2,h.oth⟩
theorem Kp.stays {R B B1:Nat} {w w':World} (h:Kp R B w w') (h1:R<B1):Q71 B1 B w w':=⟨h.size,fun k h2 h3=>h.block k h3 (by omega)⟩
theorem Kp.turn {R B:Nat} {w A C:World} {row:Option Nat} (h:Kp R B w A) (hg:A.grownBy C row) (hr:∀r,row=some r->B<=r/\∃o:Obj,A.heap[r]?=some o/\o.isCells=false) (hn:∀r o,row=some r->w.heap[r]?=some o->False) (hB:B<=A.heap.size):Kp R B w C:=
 ⟨hg.os.trans h.os,hg.tape.trans h.tape,hg.output.trans h.output,Ul h.size hg.size,fun k h1 h2=>(hg.block k (by omega) (fun e=>by have:=(hr k e.symm).1;omega)).trans (h.block k h1 h2),
   Ul h.size hg.size,fun k o hk ho=>by
    have h1:=h.oth.same k o hk ho;refine (hg.block k (Uq.1 h1).1 (fun e=>hn k o e.symm hk)).trans h1⟩
theorem Qzn.turn {w:World} {R B:Nat} {s:LU} {i q:Nat} {p:RpP} {x:RpV} {st:PrS} {U V:World} {row:Option Nat} (h:Qzn w R B s i q p x st U) (hg:U.grownBy V row) (hr:∀r,row=some r->w.heap.size<=r/\∃o:Obj,U.heap[r]?=some o/\o.isCells=false):Qzn w R B s i q p x st V:=by
 have X0:=fun r e=>(hr r e).2;have Y1:=h.kp.size;exact ⟨h.rd.sm (Sm.of_turn hg X0),h.sm,h.at_,h.kp.turn hg hr (fun r o e ho=>by have:=(hr r e).1;have:=(Uq.1 ho).1;omega) Y1,h.b0.turned hg X0,h.b1.turned hg X0,h.b2.turned hg X0,h.b3.turned hg X0,h.b4.turned hg X0⟩
theorem Qzz.turn {w:World} {R B:Nat} {s:LU} {U V:World} {row:Option Nat} (h:Qzz w R B s U) (hg:U.grownBy V row) (hr:∀r,row=some r->w.heap.size<=r/\∃o:Obj,U.heap[r]?=some o/\o.isCells=false):Qzz w R B s V:=by
 obtain ⟨i,q,p,x,st,h1,h2,h3,h4,h5,h6,h7⟩:=h;have X0:=fun r e=>(hr r e).2;exact ⟨i,q,p,x,st,h1.sm (Sm.of_turn hg X0),h2,h3,h4,h5.turn hg hr (fun r o e ho=>by have:=(hr r e).1;have:=(Uq.1 ho).1;omega) h5.size,h6.turned hg X0,h7.turned hg X0⟩
theorem Qtf (R:Nat) (s:ByteArray) (w:World) (hs:s.size<=1000000) (hT2:∀W,Kp R w.heap.size w W->Q1s W) (B0:Nat) (hI:Q62 w R B0 ⟨⟨none,0,0⟩,⟨none,0,0⟩,⟨none,0,0⟩,⟨none,0,0⟩⟩ ⟨[],⟨false,0,[]⟩,⟨false,0,[]⟩,⟨false,0,[]⟩,0,0,0,-1⟩):
 Calls Tryz.prog 48 #[.pointer (some ⟨R,0,none⟩),.string s] w (TopR w R s.data.toList):=by
 have HL:=Xh2 hT2 hI;have hRw:=hI.blk.lt;clear hT2 hI;refine (callsIn_wide (n:=6)).1 ?_;refine callsIn_of_wp_marks Tryz.func48 rfl trivial ?_ rfl;simp only[Tryz.ntmps48,Xbi,Um,UP,Nat.reduceAdd,Nat.reduceSub,Array.replicate_succ,Array.replicate_zero,List.push_toArray,List.append_toArray,TC,To]
 gi_wp2_with fail
 refine ⟨trivial,?_⟩;obtain ⟨W,hW⟩:∃W,(((((w.alloc (.cells #[.pointer (some ⟨R,0,none⟩)] 73)).alloc (.cells #[.int .i64 0] 3)).alloc (.cells #[.bool false] 4)).alloc (.cells #[.int .i64 0] 3)).alloc (.cells #[.int .i64 0] 3))=W:=⟨_,rfl⟩;have hWb:Bw w W:=by
  rw[<-hW];exact ((((Ba).alloc (by simp) _).alloc (by simp only[Uk];omega) _).alloc (by simp only[Uk];omega) _).alloc (by simp only[Uk];omega) _
 have hWs:W.heap.size=w.heap.size+5:=by rw[<-hW];simp
 have O4:Box W w.heap.size (.pointer (some ⟨R,0,none⟩)):=by rw[<-hW];exact ((((Box.new w _ _).alloc _).alloc _).alloc _).alloc _
 have S4:Box W (w.heap.size+1) (.int .i64 0):=by
  have:=Box.new (w.alloc (.cells #[.pointer (some ⟨R,0,none⟩)] 73)) (.int .i64 0) 3;rw[Uk] at this;rw[<-hW];exact ((this.alloc _).alloc _).alloc _
 have Q3:Box W (w.heap.size+1+1) (.bool false):=by
  have:=Box.new ((w.alloc (.cells #[.pointer (some ⟨R,0,none⟩)] 73)).alloc (.cells #[.int .i64 0] 3)) (.bool false) 4;rw[Uk,Uk] at this;rw[<-hW];exact (this.alloc _).alloc _
 have VH:Box W (w.heap.size+1+1+1) (.int .i64 0):=by
  have:=Box.new (((w.alloc (.cells #[.pointer (some ⟨R,0,none⟩)] 73)).alloc (.cells #[.int .i64 0] 3)).alloc (.cells #[.bool false] 4)) (.int .i64 0) 3;rw[Uk,Uk,Uk] at this;rw[<-hW];exact this.alloc _
 have hx4:Box W (w.heap.size+1+1+1+1) (.int .i64 0):=by
  have:=Box.new ((((w.alloc (.cells #[.pointer (some ⟨R,0,none⟩)] 73)).alloc (.cells #[.int .i64 0] 3)).alloc (.cells #[.bool false] 4)).alloc (.cells #[.int .i64 0] 3)) (.int .i64 0) 3;rw[Uk,Uk,Uk,Uk] at this;rw[<-hW];exact this
 rw[hW];clear hW;refine (callsIn_wide.2 (Qpi s W)).mono ?_;rintro e w1 ⟨rfl,K1,A0,Kf⟩;have Xn:Bw w w1:=hWb.trans (A0.mono hWb.size);obtain ⟨B,hBe⟩:∃B,w1.heap.size=B:=⟨_,rfl⟩;have hlt1:w.heap.size+5<B:=by omega
 have YR:Qzn w R B s.data.toList 0 0 ⟨⟨none,0,0⟩,⟨none,0,0⟩,⟨none,0,0⟩,⟨none,0,0⟩⟩ ⟨[],⟨false,0,[]⟩,⟨false,0,[]⟩,⟨false,0,[]⟩,0,0,0,-1⟩ PrS.empty w1:=by
  have h1:=(Xe1 HL).step Xn;refine ⟨⟨h1.blk,Q4o.nil_ _ _,h1.t,h1.m,h1.e⟩,?_,Qdv.zero _,Kp.of_below Xn (Uf _),O4.call A0,S4.call A0,Q3.call A0,VH.call A0,hx4.call A0⟩;have hz:Qng ⟨false,0,[]⟩ (some 0):=fun y hy=>by
   injection hy with hy;subst hy;exact ⟨by unfold Q39.ok Q0a;simp,rfl⟩
  exact ⟨rfl,rfl,rfl,hz,hz,hz,rfl,fun j a b h=>by simp at h,rfl⟩
 have HW:=Xh3 hWs hBe Xn;have HI0:=Ua YR;clear O4 S4 Q3 VH hx4 A0 hWb hWs YR Xn
 gi_wp2_with fail
 refine Qh0 rfl (by omega) (gf:=123) (lb:= #[.pointer (some ⟨W.heap.size,0,none⟩)]) rfl trivial (enters_of Tryz.func123 (by kernel_rfl) rfl)
  (Qjr _ (by omega) W.heap.size s hs w1 K1 Kf) (fun h k=>h.trans k) (fun W l o o' hl _ _=>Q71.turn W l o' hl) (fun pre x W l o o' hk _ _ _=>hk) (Uc _ _) (fun _=>rfl)
  (fun pre U=>(∃p x st,Qzn w R B s.data.toList pre.length (Qq2 pre) p x st U)/\B<=U.heap.size)
  (fun c _ U=>(c=.ret/\Qzz w R B s.data.toList U)/\B<=U.heap.size)
  ?o1 ?o2 ?h0 ?_ ?_ ?_ ?_ ?_
 case o1=>
  rintro pre U V row ⟨⟨p,x,st,h⟩,hl⟩ hg hr;exact ⟨⟨p,x,st,h.turn hg fun r e=>⟨by have:=(hr r e).1;omega,(hr r e).2⟩⟩,Ul hl hg.size⟩
 case o2=>
  rintro c pre U V row ⟨⟨hc,h⟩,hl⟩ hg hr;exact ⟨⟨hc,h.turn hg fun r e=>⟨by have:=(hr r e).1;omega,(hr r e).2⟩⟩,Ul hl hg.size⟩
 case h0=>exact ⟨⟨_,_,_,HI0.out⟩,by omega⟩
 case refine_2=>
  intro l x U K hK;simp only[LnP.encs]
  gi_wp2
  exact hK
 case refine_4=>
  rintro D xs U hD ⟨S3,_⟩ ⟨⟨p,x,st,hI⟩,hl⟩ hK;have hp:=hI.at_.end_ S3;have hq:=hI.at_.le;have JM:=hI.at_.full;have k1:=hI.b1.1;have k2:=hI.b2.1;have k3:=hI.b3.1;have k4:=hI.b4.1;have f1:=hI.b1.2;have f2:=hI.b2.2;have Ql:s.data.toList.length=s.size:=(Lib.size_eq s).symm;have HE:=Xh6 hp hq JM hI hl Ql;have Wi:∀(v1 v2:Value),NoU v1->NoU v2->∃V,(U.setCell ⟨w.heap.size+1,0,none⟩ v1).setCell ⟨w.heap.size+1+1,0,none⟩ v2=V/\V.heap[D]?=some (.deferred (some []))/\Q62 (V.putObj D (.deferred none)) R B p x/\Kp R w.heap.size w (V.putObj D (.deferred none))/\(V.putObj D (.deferred none)).cell? ⟨w.heap.size+1,0,none⟩=some v1/\(V.putObj D (.deferred none)).cell? ⟨w.heap.size+1+1,0,none⟩=some v2:=by
   intro v1 v2 n1 n2;obtain ⟨V,hV⟩:∃V,(U.setCell ⟨w.heap.size+1,0,none⟩ v1).setCell ⟨w.heap.size+1+1,0,none⟩ v2=V:=⟨_,rfl⟩;have b1:Box V (w.heap.size+1) v1:=(by rw[<-hV];exact (hI.b1.set _).other (by simp) _);have b2':Box (U.setCell ⟨w.heap.size+1,0,none⟩ v1) (w.heap.size+1+1) (.bool false):=hI.b2.other (by simp) _;have b2:Box V (w.heap.size+1+1) v2:=(by rw[<-hV];exact b2'.set _);have hr:Q62 V R B p x:=(by rw[<-hV];exact (hI.rd.box1 hI.b1 (Q3b _) (by omega) (by omega) _).box1 b2' (Q2w _) (by omega) (by omega) _);have hk:Kp R w.heap.size w V:=(by rw[<-hV];exact (hI.kp.trans (Kp.set _ (.inr (by omega)) _)).trans (Kp.set _ (.inr (by omega)) _));have vK:V.heap[D]?=some (.deferred (some [])):=(by rw[<-hV];exact ((KeepsOthers.setCell _ _ _).trans (KeepsOthers.setCell _ _ _)).same D _ hK rfl);have hg:=grownBy_putObj' V D (.deferred none);have X0:∀r,some D=some r->∃o:Obj,V.heap[r]?=some o/\o.isCells=false:=fun r e=>by cases e;exact ⟨_,vK,rfl⟩
   refine ⟨V,hV,vK,hr.sm (Sm.of_turn hg X0),hk.turn hg (fun r e=>⟨by cases e;omega,X0 r e⟩) (fun r o e ho=>by cases e;have:=(Uq.1 ho).1;omega) hk.size,(b1.turned hg X0).1,(b2.turned hg X0).1⟩
  have HZ:=Ua Wi;clear hp hq JM hI hl Ql Wi K1
  by_cases h6:xs.length<=6
  ·have h6':(xs.length:Int)<=6:=by omega
   gi_wp2_with fail
   obtain ⟨V,hV,vK,hr,hk,z1,z2⟩:=HZ.out (.int .i64 (s.size:Int)) (.bool false) (Q3b _) (Q2w _);have HV:=Xh2 hr hk;rw[hV];clear hV hr hk;refine ⟨by simp,.inl ⟨_,_,rfl,run_takeDeferred vK,?_⟩⟩;refine ⟨.tuple #[.int .i64 (s.size:Int),.bool false],by simp[results,go_sem,z1,z2],?_⟩;refine ⟨B,p,x,(Xo0 HV),(Xe1 HV),by omega,?_⟩;rw[(Xo0 HE),Uu h6];exact ⟨by rw[(Xe5 HE)],rfl⟩
  ·have h6':¬(xs.length:Int)<=6:=by omega
   gi_wp2_with fail
   obtain ⟨V,hV,vK,hr,hk,z1,z2⟩:=HZ.out (.int .i64 (Qq2 xs:Int)) (.bool true) (Q3b _) (Q2w _);have HV:=Xh2 hr hk;rw[hV];clear hV hr hk;refine ⟨by simp,.inl ⟨_,_,rfl,run_takeDeferred vK,?_⟩⟩;refine ⟨.tuple #[.int .i64 (Qq2 xs:Int),.bool true],by simp[results,go_sem,z1,z2],?_⟩;refine ⟨B,p,x,(Xo0 HV),(Xe1 HV),by omega,?_⟩;rw[(Xo0 HE),Us h6];exact ⟨rfl,(Xo3 HE).sm,(Xo2 HE),(Xo1 HE)⟩
 case refine_5=>
  rintro D cd pre U hD _ ⟨⟨rfl,i,q,p,x,st,h1,h2,h3,h4,h5,b1,b2⟩,hl⟩ hK;have hg:=grownBy_putObj' U D (.deferred none);have X0:∀r,some D=some r->∃o:Obj,U.heap[r]?=some o/\o.isCells=false:=fun r e=>by cases e;exact ⟨_,hK,rfl⟩
  have z1:=(b1.turned hg X0).1;have z2:=(b2.turned hg X0).1;have hr:=h1.sm (Sm.of_turn hg X0);have hk:Kp R w.heap.size w (U.putObj D (.deferred none)):=h5.turn hg (fun r e=>⟨by cases e;omega,X0 r e⟩) (fun r o e ho=>by cases e;have:=(Uq.1 ho).1;omega) h5.size;have HV:=Xh5 hr hk h2 h3 h4;clear hr hk h1 h2 h3 h4 h5 hg X0 K1 b1 b2
  gi_wp2_with fail
  refine ⟨by simp,.inl ⟨_,_,rfl,run_takeDeferred hK,?_⟩⟩;refine ⟨.tuple #[.int .i64 (q:Int),.bool (decide (6<i))],by simp[results,go_sem,z1,z2],?_⟩;refine ⟨B,p,x,(Xo0 HV),(Xo1 HV),by omega,?_⟩;rw[(Xe4 HV)]
  by_cases h6:6<i
  ·rw[Uu h6,UT h6];exact ⟨rfl,((Xo2 HV) h6).1,((Xo2 HV) h6).2,(Xo3 HV)⟩
  ·rw[Us h6,UX h6];exact ⟨rfl,rfl⟩
 case refine_3=>
  rintro l pre ⟨at_,t⟩ U ⟨⟨p,x,st,hI⟩,hl⟩ O1;have R1:at_=Qq2 pre:=O1.1;have hltp:at_+t.size<s.size:=O1.2.1;have Q2:Q85 s.data.toList at_=some t.data.toList:=O1.2.2;rw[<-R1] at hI;obtain ⟨n,hn⟩:∃n,pre.length=n:=⟨_,rfl⟩;rw[hn] at hI;have hnle:n<=at_:=hI.at_.ip;have S5:t.data.toList.length=t.size:=(Lib.size_eq t).symm;have Xs:R<B:=by omega
  have YF:w.heap.size<=B:=by omega
  have hlin:=Qpp R B n at_ p x st t U (by omega) (fun W hW=>(Xo0 HL) W (hI.kp.trans (hW.mono YF))) hI.rd Xs (by omega) hI.sm;have k0:=hI.b0.1;have k3:=hI.b3.1;have k14:=hI.rd.blk.c 14 _ rfl;have YX:=Xh4 R1 Q2 S5 hlin;have Qg:=Xh5 hI Xs YF hl hn;clear O1 R1 Q2 S5 hlin hI Xs YF hl K1 hn
  gi_wp2_with fail
  refine ⟨trivial,?_⟩;refine (callsIn_wide.2 (Xe3 YX)).mono ?_;rintro e U1 ⟨p',x',M1,J2,hm⟩;have c0:=(Xo0 Qg).b0.kp J2 (by omega) (by omega);have c1:=(Xo0 Qg).b1.kp J2 (by omega) (by omega);have c2:=(Xo0 Qg).b2.kp J2 (by omega) (by omega);have c3:=(Xo0 Qg).b3.kp J2 (by omega) (by omega);have c4:=(Xo0 Qg).b4.kp J2 (by omega) (by omega);cases x6:Q4v n at_ t.data.toList st with
  |none=>
   rw[x6] at hm;obtain ⟨rfl,Vc⟩:=hm;have QG:=(Xo0 Qg).at_.bad (Xo1 YX) x6;have k14':=M1.blk.c 14 _ rfl;have f14:=M1.blk.f 14 (by simp[rpL]);have q0:=c0.1;have q1:=c1.1;have q2:=c2.1;have q3:=c3.1;have g1:=c1.2;have g2:=c2.2;have HN:=Xh6 M1 J2 QG Vc c1 c2;clear M1 J2 QG Vc x6 c0 c1 c2 c3 c4;have hmix:Tryz.prog.follows .mixedOrders=true:=(by kernel_rfl);obtain ⟨U2,Xr⟩:∃U2,U1.setCell ⟨R,14,none⟩ (.int .i64 x.over)=U2:=⟨_,rfl⟩;have ZV:(U1.setCell ⟨R,14,none⟩ (.int .i64 x.over)).cell? ⟨w.heap.size+1+1+1,0,none⟩=some (.int .i64 (n:Int)):=(UR (Td _ _ _ _ (by show w.heap.size+1+1+1≠R;omega))).trans q3
   gi_wp2_with fail
   have d1:Box U2 (w.heap.size+1) (.int .i64 0):=(by rw[<-Xr];exact (Xo4 HN).other (by show R≠w.heap.size+1;omega) _);have d2:Box U2 (w.heap.size+1+1) (.bool false):=(by rw[<-Xr];exact (Xe5 HN).other (by show R≠w.heap.size+1+1;omega) _);rw[Xr] at ZV;have HU:=Ua Xr;clear Xr q0 q1 q2 q3 g1 g2 k0 k3 k14 k14' f14;have q1:=d1.1;have q2:=d2.1;have g1:=d1.2;have g2:=d2.2
   gi_region
   all_goals gi_wp2_with fail
   all_goals
    obtain ⟨M1,J2,QG,Vc,_,_⟩:=HN.out;have Xs:=(Xo1 Qg);have YF:=(Xo2 Qg);have Xr:=HU.out;have X0:Q62 U2 R B p' { x' with over:=x.over }:=(by rw[<-Xr];exact M1.over Xs x.over);have Z6:Kp R w.heap.size w U2:=(by rw[<-Xr];exact ((Xo0 Qg).kp.trans (J2.mono YF)).trans (Kp.set _ (.inl rfl) _));have ZQ:KeepsOthers U U2:=(by rw[<-Xr];exact J2.oth.trans (KeepsOthers.setCell _ _ _));have o7:B<=U2.heap.size:=(by rw[<-Xr,Tj];exact Ul (Xo3 Qg) J2.size);have d2':Box (U2.setCell ⟨w.heap.size+1,0,none⟩ (.int .i64 (at_:Int))) (w.heap.size+1+1) (.bool false):=d2.other (by simp) _;have N3:decide ((6:Int)<(n:Int))=decide (6<n):=decide_eq_decide.2 (by omega);rw[N3];have M7:=(X0.box1 d1 (Q3b _) (by omega) (by omega) (.int .i64 (at_:Int))).box1 d2' (Q2w _) (by omega) (by omega) (.bool (decide (6<n)));have QW:=(Z6.trans (Kp.set (R:=R) (B:=w.heap.size) U2 (b:=w.heap.size+1) (i:=0) (.inr (by omega)) (.int .i64 (at_:Int)))).trans (Kp.set (R:=R) (B:=w.heap.size) _ (b:=w.heap.size+1+1) (i:=0) (.inr (by omega)) (.bool (decide (6<n))));have e1:Box ((U2.setCell ⟨w.heap.size+1,0,none⟩ (.int .i64 (at_:Int))).setCell ⟨w.heap.size+1+1,0,none⟩ (.bool (decide (6<n)))) (w.heap.size+1) (.int .i64 (at_:Int)):=(d1.set _).other (by simp) _;have e2:Box ((U2.setCell ⟨w.heap.size+1,0,none⟩ (.int .i64 (at_:Int))).setCell ⟨w.heap.size+1+1,0,none⟩ (.bool (decide (6<n)))) (w.heap.size+1+1) (.bool (decide (6<n))):=d2'.set _;have S8:=ZQ.trans ((KeepsOthers.setCell U2 ⟨w.heap.size+1,0,none⟩ (.int .i64 (at_:Int))).trans (KeepsOthers.setCell _ ⟨w.heap.size+1+1,0,none⟩ (.bool (decide (6<n)))));refine ⟨⟨S8.size,fun k o _ hk ho=>S8.same k o hk ho⟩,⟨rfl,n,at_,p',{ x' with over:=x.over },st,M7.sm ⟨Uf _,fun _ _ _ _=>rfl⟩,fun h6=>?_,(Xo0 Qg).at_.le,QG,⟨QW.os,QW.tape,QW.output,QW.size,QW.block,⟨QW.oth.size,QW.oth.same⟩⟩,e1,e2⟩,by show B<=((U2.setCell _ _).setCell _ _).heap.size;simp only[Tj];exact o7⟩;obtain ⟨rfl,o,rfl⟩:=Vc (by omega);exact ⟨(Xo0 Qg).sm,(Xo0 Qg).at_.full⟩
  |some st'=>
   rw[x6] at hm;obtain ⟨rfl,Vh⟩:=hm;have z4:=(Xo0 Qg).at_.step (Xo1 YX) x6;rw[(Xo2 YX)] at z4;have q0:=c0.1;have q3:=c3.1;have q4:=c4.1;have g3:=c3.2;have g4:=c4.2;have HN:=Xh9 M1 J2 Vh z4 c0 c1 c2 c3 c4;clear M1 J2 Vh z4 x6 c0 c1 c2 c3 c4
   gi_wp2_with fail
   obtain ⟨M1,J2,Vh,z4,c0,c1,c2,c3,c4⟩:=HN.out;have hw:W.heap.size=w.heap.size+5:=(Xo0 HW);have hBe:w1.heap.size=B:=(Xo1 HW);have Xs:=(Xo1 Qg);have YF:=(Xo2 Qg);have d4:Box (U1.setCell ⟨w.heap.size+1+1+1,0,none⟩ (.int .i64 ((n:Int)+1))) (w.heap.size+1+1+1+1) (.int .i64 (at_:Int)):=c4.other (by simp) _;have hrV:=(M1.box1 c3 (Q3b _) (by omega) (by omega) (.int .i64 ((n:Int)+1))).box1 d4 (Q3b _) (by omega) (by omega) (.int .i64 ((at_:Int)+(t.size:Int)+1));have hkV:Kp R w.heap.size w ((U1.setCell ⟨w.heap.size+1+1+1,0,none⟩ (.int .i64 ((n:Int)+1))).setCell ⟨w.heap.size+1+1+1+1,0,none⟩ (.int .i64 ((at_:Int)+(t.size:Int)+1))):=(((Xo0 Qg).kp.trans (J2.mono YF)).trans (Kp.set _ (.inr (by omega)) _)).trans (Kp.set _ (.inr (by omega)) _);refine ⟨(J2.oth.trans ((KeepsOthers.setCell _ _ _).trans (KeepsOthers.setCell _ _ _))).from _,?_,⟨p',x',st',?_⟩,?_⟩
   ·rw[hBe];exact Q71.setCell (Q71.setCell (J2.stays (by omega)) (.inl (by show w.heap.size+1+1+1<_;omega)) _) (.inl (by show w.heap.size+1+1+1+1<_;omega)) _
   ·rw[Uh,Xas,(Xe4 Qg),Qjq];refine ⟨hrV,Vh,z4,hkV,?_,?_,?_,?_,?_⟩
    ·exact (c0.other (by simp <;> omega) _).other (by simp <;> omega) _
    ·exact (c1.other (by simp <;> omega) _).other (by simp <;> omega) _
    ·exact (c2.other (by simp <;> omega) _).other (by simp <;> omega) _
    ·exact (c3.set _).other (by simp) _
    ·exact d4.set _
   ·simp only[Tj];exact Ul (Xo3 Qg) J2.size
end Go.Proofs.YtidojbkhlenahaaGreatDoor
namespace Go.Proofs.YtidojbkhlenahaaGreatDoor
open Go.RowKit WordsM
def uv (n:Nat):Value:=.int .u64 (n:Int)
def RdU (w:World) (B:Nat) (a:OA) (ls:LN):Prop:=
 ls=[]∨∃b o,a=some ⟨b,o,none⟩/\b<B/\∀(j:Nat) x,ls[j]?=some x->w.cell? ⟨b,o+j,none⟩=some (uv x)
section
variable {w w':World} {b i:Nat} {fp:Nat->Prop}
end
open DecM
theorem Qni [LT ZK] {w:World} {a:OA} {n c:Nat} {F:List (List Q00)} (h:Q1v w a n c F) {ms:List Q00} (hm:ms∈F):∃p l d,Q0e w p l d ms:=by
 obtain ⟨h1,h2,h3,h0|⟨b,o,_,_,hF⟩⟩:=h
 ·rw[h0] at hm;cases hm
 obtain ⟨i,hi⟩:=UQ.1 hm;obtain ⟨p,l,d,_,hM⟩:=hF i ms hi;exact ⟨p,l,d,hM⟩
theorem Qzo [LT ZK] {w:World} {p:OA} {l d:Nat} {ms:List Q00} (h:Q0e w p l d ms) {m:Q00} (hm:m∈ms):Low (2^64) m.ws:=by
 obtain ⟨_,_,_,h0|⟨b2,o2,_,_,hM⟩⟩:=h
 ·rw[h0] at hm;cases hm
 obtain ⟨j,hj⟩:=UQ.1 hm;obtain ⟨_,_,_,_,_,_,_,_,_,_,hw,_⟩:=hM j m hj;exact hw.low
theorem Qtg [LT ZK] {w:World} {a:OA} {n c:Nat} {F:List (List Q00)} (h:Q1v w a n c F) (hR:Q1w F):Qqx (Q0n F):=by
 obtain ⟨h1,h4,hr⟩:=hR;have hl:(Q0n F).length=F.length:=by unfold Q0n;exact UF ..
 refine ⟨by omega,by omega,fun P hP=>?_⟩;unfold Q0n at hP;obtain ⟨ms,D6,rfl⟩:=Tx.1 hP;obtain ⟨p,l,d,hM⟩:=Qni h D6;rw[hl];exact (hr ms D6).plain hM
theorem Qvy {k j:Nat} {m m':Q00} (h:OkM k m) (h':OkM j m') (l:Low (2^64) m.ws) (l':Low (2^64) m'.ws) (e:m.term=m'.term):m=m':=by
 have e1:Q1r m.neg m.exp m.ws=Q1r m'.neg m'.exp m'.ws:=congrArg Prod.fst e;have e2:m.es=m'.es:=congrArg Prod.snd e;obtain ⟨h1,h2,h3⟩:=Qkd h.1.2 l h'.1.2 l' e1;cases m;cases m';simp only at h1 h2 h3 e2;rw[h1,h2,h3,e2]
theorem Qju {k j:Nat}:∀{ms ms':List Q00},(∀m∈ms,OkM k m/\Low (2^64) m.ws)->(∀m∈ms',OkM j m/\Low (2^64) m.ws)->ms.map Q00.term=ms'.map Q00.term->ms=ms'
 |[],[],_,_,_=>rfl
 |[],_::_,_,_,h=>by simp at h
 |_::_,[],_,_,h=>by simp at h
 |m::r,m'::r',h1,h2,h=>by
  simp only[Xai,List.cons.injEq] at h;rw[Qvy (h1 m (by simp)).1 (h2 m' (by simp)).1 (h1 m (by simp)).2 (h2 m' (by simp)).2 h.1,Qju (fun x hx=>h1 x (by simp[hx])) (fun x hx=>h2 x (by simp[hx])) h.2]
theorem Qjv {k j:Nat}:∀{F G:List (List Q00)},(∀ms∈F,∀m∈ms,OkM k m/\Low (2^64) m.ws)->(∀ms∈G,∀m∈ms,OkM j m/\Low (2^64) m.ws)->Q0n F=Q0n G->F=G
 |[],[],_,_,_=>rfl
 |[],_::_,_,_,h=>by simp[Q0n] at h
 |_::_,[],_,_,h=>by simp[Q0n] at h
 |m::r,m'::r',h1,h2,h=>by
  simp only[Q0n,Xai,List.cons.injEq] at h;rw[Qju (h1 m (by simp)) (h2 m' (by simp)) h.1,Qjv (fun x hx=>h1 x (by simp[hx])) (fun x hx=>h2 x (by simp[hx])) h.2]
theorem Qvz [LT ZK] {w:World} {a:OA} {n c:Nat} {F:List (List Q00)} (h:Q1v w a n c F) (hR:Q1w F):∀ms∈F,∀m∈ms,OkM F.length m/\Low (2^64) m.ws:=fun ms D6 m hm=>by
 obtain ⟨p,l,d,hM⟩:=Qni h D6;exact ⟨(hR.2.2 ms D6).2.2.2.1 m hm,Qzo hM hm⟩
theorem Qth {P:Program} {K:Value->World->Prop} {w:World} {f:FuncId} {args:Array Value} {res:Result Next} (hr:res=.ok (.enter f args) w) (h:Calls P f args w fun e w''=>∃v,e=.returned v/\K v w''):Q2p P K res:=by rw[hr];exact h
theorem Q6l {x:Q39} {a:OA} {l c:Nat} {w:World} (h:Q0i w a l c x) (hi:x.ok) (hP:Qbh w) {t:LU} (ht:dyT x.val=t):
 Calls Tryz.prog 38 #[.agg #[.bool x.neg,.int .i64 x.exp,.slice a l c]] w fun r w'=>r=.returned (.string ⟨t.toArray⟩)/\Bw w w':=by subst ht;exact Qlw x a l c w h hi hP
theorem Qar {n:Int} {w:World} (h0:0<=n) (h1:n<=5000) (hP:Qbh w) {t:LU} (ht:dec n.toNat=t):
 Calls Tryz.prog 37 #[.int .i64 n] w fun r w'=>r=.returned (.string ⟨t.toArray⟩)/\Bw w w':=by subst ht;exact Qlx n w h0 h1 hP
def Q33.prob (x:Q33):Qa8:=⟨Q0n x.field,x.box.map fun b=>(b.lo.val,b.hi.val),x.til.val,x.most.val,x.least.val,x.prec.toNat,x.order.toNat,x.budget.toNat⟩
structure Qy5 (L0 L1 L2 L3 L4 L5 L6 sp so sb st sm se:LU):Prop where
 eq0:L0++Q22 Qbd sp=L1
 eq1:L1++Q22 Q74 so=L2
 eq2:L2++Q22 Q4n sb=L3
 eq3:L3++Q22 Q75 st=L4
 eq4:L4++Q22 Qct sm=L5
 eq5:L5++Q22 Q7k se=L6
 len0:L0.length+Qbd.length+sp.length<=100000000
 len1:L1.length+Q74.length+so.length<=100000000
 len2:L2.length+Q4n.length+sb.length<=100000000
 len3:L3.length+Q75.length+st.length<=100000000
 len4:L4.length+Qct.length+sm.length<=100000000
 len5:L5.length+Q7k.length+se.length<=100000000
 all:L6.length<=10000
theorem Qzp {sp so sb st sm se:LU} (h1:sp.length<=4) (h2:so.length<=4) (h3:sb.length<=4) (h4:st.length<=1401) (h5:sm.length<=1401) (h6:se.length<=1401):∃L1 L2 L3 L4 L5 L6,Qy5 [] L1 L2 L3 L4 L5 L6 sp so sb st sm se:=by
 have e1:Qbd.length=4:=rfl;have e2:Q74.length=5:=rfl;have e3:Q4n.length=6:=rfl;have e4:Q75.length=5:=rfl;have e5:Qct.length=4:=rfl;have e6:Q7k.length=5:=rfl;refine ⟨_,_,_,_,_,_,rfl,rfl,rfl,rfl,rfl,rfl,?_,?_,?_,?_,?_,?_,?_⟩ <;> simp only[Uh,UP,Qap] <;> omega
theorem Qy5.text {L1 L2 L3 L4 L5 L6 sp so sb st sm se r:LU} (h:Qy5 [] L1 L2 L3 L4 L5 L6 sp so sb st sm se):L6++r=Q22 Qbd sp++(Q22 Q74 so++(Q22 Q4n sb++(Q22 Q75 st++(Q22 Qct sm++(Q22 Q7k se++r))))):=by
 rw[<-h.eq5,<-h.eq4,<-h.eq3,<-h.eq2,<-h.eq1,<-h.eq0];simp only[TC,UN]
theorem Qe0 (b:Dyadic × Dyadic):∀l,Q7l (l++[b])=Q7l l++Q22 Qh9 (dyT b.1++32::dyT b.2)
 |[]=>by simp[Q7l]
 |c::r=>by rw[To,Q7l,Q7l,Qe0 b r,UN]
theorem Q9w:∀(l:List (Dyadic × Dyadic)),(∀b∈l,(dyT b.1).length<=1401/\(dyT b.2).length<=1401)->(Q7l l).length<=l.length*2810
 |[],_=>by simp[Q7l]
 |b::r,h=>by
  have h1:=Q9w r fun x hx=>h x (Xaa _ hx);have h2:=h b (Xad ..);have e:Qh9.length=3:=rfl;rw[Q7l,Uh,Qap,Uh,Um,Um];omega
def Qzq (w1:World) (L:LU) (bl:Nat) (bx:List (Dyadic × Dyadic)) (s:Value) (wr:World):Prop:=∃i:Nat,s=.int .i64 (i:Int)/\i<=bl/\Q60 w1.heap.size w1.heap.size (L++Q7l (bx.take i)) wr/\Bw w1 wr
theorem Qb7 [LT ZK] (p:Qgo) (x:Q33) (w:World) (h:Q2g w p x) (hR:Q24 x) (hT:Q1s w) (hP:Qbh w):
 Calls Tryz.prog 13 #[.agg (Q46 p x).toArray] w fun r w'=>r=.returned (sv (Qcu x.prob))/\Bw w w':=by
 obtain ⟨⟨fa,fl,fc⟩,⟨ba,bl,bc⟩,⟨ta,tl,tc⟩,⟨ma,ml,mc⟩,⟨ea,el,ec⟩⟩:=p;obtain ⟨F,B,⟨tn,te,ts⟩,⟨mn,me,ms⟩,⟨en,ee,es⟩,prec,order,budget⟩:=x;have V5:B.length=bl:=h.b.1;have R2:=Ul h.b.2.1 h.b.2.2.1;simp only at R2;have nt:=Q1z h.t hR.til.1;have nm:=Q1z h.m hR.most.1;have ne:=Q1z h.e hR.least.1;have rp:=hR.prec;have ro:=hR.order;have rb:=hR.budget;simp only at rp ro rb;obtain ⟨sp,Zk⟩:∃t,dec prec.toNat=t:=⟨_,rfl⟩;obtain ⟨so,XQ⟩:∃t,dec order.toNat=t:=⟨_,rfl⟩;obtain ⟨sb,XB⟩:∃t,dec budget.toNat=t:=⟨_,rfl⟩;obtain ⟨st,Y0⟩:∃t,dyT (Q39.val ⟨tn,te,ts⟩)=t:=⟨_,rfl⟩;obtain ⟨sm,C4⟩:∃t,dyT (Q39.val ⟨mn,me,ms⟩)=t:=⟨_,rfl⟩;obtain ⟨se,R7⟩:∃t,dyT (Q39.val ⟨en,ee,es⟩)=t:=⟨_,rfl⟩;obtain ⟨L1,L2,L3,L4,L5,L6,hL⟩:=Qzp (sp:=sp) (so:=so) (sb:=sb) (st:=st) (sm:=sm) (se:=se) (by rw[<-Zk];exact Q49 (by omega)) (by rw[<-XQ];exact Q49 (by omega)) (by rw[<-XB];exact Q49 (by omega)) (by rw[<-Y0];exact nt.2) (by rw[<-C4];exact nm.2) (by rw[<-R7];exact ne.2);obtain ⟨Y,hY⟩:∃t,Qcu (Q33.prob ⟨F,B,⟨tn,te,ts⟩,⟨mn,me,ms⟩,⟨en,ee,es⟩,prec,order,budget⟩)=t:=⟨_,rfl⟩;have hYL:L6++(Q7l (B.map fun b=>(b.lo.val,b.hi.val))++Q0u 0 (Q0n F))=Y:=by rw[hL.text,<-hY,<-Zk,<-XQ,<-XB,<-Y0,<-C4,<-R7];rfl
 rw[hY];have HL:=Ua hL;have HY:=Ua hYL;clear nt nm ne hY hYL hL;have hC:=Q3h.new w (Q46 ⟨⟨fa,fl,fc⟩,⟨ba,bl,bc⟩,⟨ta,tl,tc⟩,⟨ma,ml,mc⟩,⟨ea,el,ec⟩⟩ ⟨F,B,⟨tn,te,ts⟩,⟨mn,me,ms⟩,⟨en,ee,es⟩,prec,order,budget⟩) 28;have Z0:Bw w (w.alloc (.cells (Q46 ⟨⟨fa,fl,fc⟩,⟨ba,bl,bc⟩,⟨ta,tl,tc⟩,⟨ma,ml,mc⟩,⟨ea,el,ec⟩⟩ ⟨F,B,⟨tn,te,ts⟩,⟨mn,me,ms⟩,⟨en,ee,es⟩,prec,order,budget⟩).toArray 28)):=Ba;have E0:=Q0p w (.cells (Q46 ⟨⟨fa,fl,fc⟩,⟨ba,bl,bc⟩,⟨ta,tl,tc⟩,⟨ma,ml,mc⟩,⟨ea,el,ec⟩⟩ ⟨F,B,⟨tn,te,ts⟩,⟨mn,me,ms⟩,⟨en,ee,es⟩,prec,order,budget⟩).toArray 28);have Q4:=fun V (hV:Bw w V)=>Q3y _ _ V (h.step hV);simp only[Q46] at hC Z0 E0 Q4⊢;obtain ⟨W0,E1⟩:∃W0,w.alloc (.cells #[.slice fa fl fc,.slice ba bl bc,.bool tn,.int .i64 te,.slice ta tl tc,.bool mn,.int .i64 me,.slice ma ml mc,.bool en,.int .i64 ee,.slice ea el ec,.int .i64 prec,.int .i64 order,.int .i64 budget] 28)=W0:=⟨_,rfl⟩;rw[E1] at hC Z0 E0;have HC:=Ua (fun V (hV:Bw W0 V)=>have hb:=Below.next0 Z0 hV;have hh:=h.step hb;have Vn:=hP.step hb;And.intro (hC.step hV E0) (And.intro (Qar (n:=prec) (by omega) (by omega) Vn Zk) (And.intro (Qar (n:=order) (by omega) (by omega) Vn XQ) (And.intro (Qar (n:=budget) (by omega) (by omega) Vn XB) (And.intro (Q6l (x:=⟨tn,te,ts⟩) hh.t hR.til.1 Vn Y0) (And.intro (Q6l (x:=⟨mn,me,ms⟩) hh.m hR.most.1 Vn C4) (And.intro (Q6l (x:=⟨en,ee,es⟩) hh.e hR.least.1 Vn R7) (And.intro hh (And.intro Vn (hT.step hb))))))))));have M1:=yn1 (Q4 W0 Z0) (Q0b.2 hR);have HR:=Xh3 M1 hR Z0;obtain ⟨k0,k1,k2,k3,k4,k5,k6,k7,k8,k9,k10,k11,k12,k13⟩:=Q04 hC;clear hC Z0 E0 h Q4 M1 hR hT hP Zk XQ XB Y0 C4 R7
 go_enter Tryz.func13,Tryz.ntmps13
 go_upto_region 1 with fail
 clear E1
 go_upto_region 5 with (go_at_call 9;refine (Xo0 HR).mono ?_;rintro r w1 ⟨rfl,hb⟩;have H1:=Ua hb;clear hb)
 have N6:Bw w1 (w1.alloc (.cells #[.pointer none,.slice none 0 0] 57)):=Ba;have Kd:=Q60.new w1.heap.size w1 (Uf _);have H2:=Xh2 N6 Kd;have hq:=(HC.out _ (Below.next0 H1.out N6)).1;obtain ⟨k0,k1,k2,k3,k4,k5,k6,k7,k8,k9,k10,k11,k12,k13⟩:=Q04 hq;clear N6 Kd hq;generalize w1.alloc (.cells #[.pointer none,.slice none 0 0] 57)=w2 at*;obtain ⟨bx,K1⟩:∃l,(B.map fun b=>(b.lo.val,b.hi.val))=l:=⟨_,rfl⟩;have K5:bx.length=bl:=by rw[<-K1,UF,V5]
 rw[K1] at HY;have HX:=Xh2 K1 K5;clear K1 K5
 go_wp2_with (first
  |(go_at_call_of 34 (Value.slice (some ⟨w13.heap.size,0,none⟩) 2 2);refine (Qyk w1.heap.size L5 Q7k se w13 (Xe1 H13) (Xo0 H13).size HL.out.len5).mono ?_;rintro r w14 ⟨rfl,C7,hb⟩;rw[HL.out.eq5] at C7;have H14:=Xh2 ((Xo0 H13).trans hb) C7;have hq:=(HC.out w14 (Below.next0 H1.out (Xo0 H14))).1;obtain ⟨k0,k1,k2,k3,k4,k5,k6,k7,k8,k9,k10,k11,k12,k13⟩:=Q04 hq;clear hq hb;clear C7)
  |(go_at_call_of 38 (Value.agg #[.bool en,.int .i64 ee,.slice ea el ec]);refine ((HC.out w12 (Below.next0 H1.out (Xo0 H12))).2.2.2.2.2.2.1).mono ?_;rintro r w13 ⟨rfl,hb⟩;have H13:=Xh2 (Below.next0 (Xo0 H12) hb) ((Xe1 H12).call hb);have hq:=(HC.out w13 (Below.next0 H1.out (Xo0 H13))).1;obtain ⟨k0,k1,k2,k3,k4,k5,k6,k7,k8,k9,k10,k11,k12,k13⟩:=Q04 hq;clear hq hb)
  |(go_at_call_of 34 (Value.slice (some ⟨w11.heap.size,0,none⟩) 2 2);refine (Qyk w1.heap.size L4 Qct sm w11 (Xe1 Kv) (Xo0 Kv).size HL.out.len4).mono ?_;rintro r w12 ⟨rfl,C7,hb⟩;rw[HL.out.eq4] at C7;have H12:=Xh2 ((Xo0 Kv).trans hb) C7;have hq:=(HC.out w12 (Below.next0 H1.out (Xo0 H12))).1;obtain ⟨k0,k1,k2,k3,k4,k5,k6,k7,k8,k9,k10,k11,k12,k13⟩:=Q04 hq;clear hq hb;clear C7)
  |(go_at_call_of 38 (Value.agg #[.bool mn,.int .i64 me,.slice ma ml mc]);refine ((HC.out w10 (Below.next0 H1.out (Xo0 Qz))).2.2.2.2.2.1).mono ?_;rintro r w11 ⟨rfl,hb⟩;have Kv:=Xh2 (Below.next0 (Xo0 Qz) hb) ((Xe1 Qz).call hb);have hq:=(HC.out w11 (Below.next0 H1.out (Xo0 Kv))).1;obtain ⟨k0,k1,k2,k3,k4,k5,k6,k7,k8,k9,k10,k11,k12,k13⟩:=Q04 hq;clear hq hb)
  |(go_at_call_of 34 (Value.slice (some ⟨w9.heap.size,0,none⟩) 2 2);refine (Qyk w1.heap.size L3 Q75 st w9 (Xe1 H9) (Xo0 H9).size HL.out.len3).mono ?_;rintro r w10 ⟨rfl,C7,hb⟩;rw[HL.out.eq3] at C7;have Qz:=Xh2 ((Xo0 H9).trans hb) C7;have hq:=(HC.out w10 (Below.next0 H1.out (Xo0 Qz))).1;obtain ⟨k0,k1,k2,k3,k4,k5,k6,k7,k8,k9,k10,k11,k12,k13⟩:=Q04 hq;clear hq hb;clear C7)
  |(go_at_call_of 38 (Value.agg #[.bool tn,.int .i64 te,.slice ta tl tc]);refine ((HC.out w8 (Below.next0 H1.out (Xo0 H8))).2.2.2.2.1).mono ?_;rintro r w9 ⟨rfl,hb⟩;have H9:=Xh2 (Below.next0 (Xo0 H8) hb) ((Xe1 H8).call hb);have hq:=(HC.out w9 (Below.next0 H1.out (Xo0 H9))).1;obtain ⟨k0,k1,k2,k3,k4,k5,k6,k7,k8,k9,k10,k11,k12,k13⟩:=Q04 hq;clear hq hb)
  |(go_at_call_of 34 (Value.slice (some ⟨w7.heap.size,0,none⟩) 2 2);refine (Qyk w1.heap.size L2 Q4n sb w7 (Xe1 H7) (Xo0 H7).size HL.out.len2).mono ?_;rintro r w8 ⟨rfl,C7,hb⟩;rw[HL.out.eq2] at C7;have H8:=Xh2 ((Xo0 H7).trans hb) C7;have hq:=(HC.out w8 (Below.next0 H1.out (Xo0 H8))).1;obtain ⟨k0,k1,k2,k3,k4,k5,k6,k7,k8,k9,k10,k11,k12,k13⟩:=Q04 hq;clear hq hb;clear C7)
  |(go_at_call_of 37 (Value.int .i64 budget);refine ((HC.out w6 (Below.next0 H1.out (Xo0 H6))).2.2.2.1).mono ?_;rintro r w7 ⟨rfl,hb⟩;have H7:=Xh2 (Below.next0 (Xo0 H6) hb) ((Xe1 H6).call hb);have hq:=(HC.out w7 (Below.next0 H1.out (Xo0 H7))).1;obtain ⟨k0,k1,k2,k3,k4,k5,k6,k7,k8,k9,k10,k11,k12,k13⟩:=Q04 hq;clear hq hb)
  |(go_at_call_of 34 (Value.slice (some ⟨w5.heap.size,0,none⟩) 2 2);refine (Qyk w1.heap.size L1 Q74 so w5 (Xe1 H5) (Xo0 H5).size HL.out.len1).mono ?_;rintro r w6 ⟨rfl,C7,hb⟩;rw[HL.out.eq1] at C7;have H6:=Xh2 ((Xo0 H5).trans hb) C7;have hq:=(HC.out w6 (Below.next0 H1.out (Xo0 H6))).1;obtain ⟨k0,k1,k2,k3,k4,k5,k6,k7,k8,k9,k10,k11,k12,k13⟩:=Q04 hq;clear hq hb;clear C7)
  |(go_at_call_of 37 (Value.int .i64 order);refine ((HC.out w4 (Below.next0 H1.out (Xo0 H4))).2.2.1).mono ?_;rintro r w5 ⟨rfl,hb⟩;have H5:=Xh2 (Below.next0 (Xo0 H4) hb) ((Xe1 H4).call hb);have hq:=(HC.out w5 (Below.next0 H1.out (Xo0 H5))).1;obtain ⟨k0,k1,k2,k3,k4,k5,k6,k7,k8,k9,k10,k11,k12,k13⟩:=Q04 hq;clear hq hb)
  |(go_at_call_of 34 (Value.slice (some ⟨w3.heap.size,0,none⟩) 2 2);refine (Qyk w1.heap.size [] Qbd sp w3 (Xe1 H3) (Xo0 H3).size HL.out.len0).mono ?_;rintro r w4 ⟨rfl,C7,hb⟩;rw[HL.out.eq0] at C7;have H4:=Xh2 ((Xo0 H3).trans hb) C7;have hq:=(HC.out w4 (Below.next0 H1.out (Xo0 H4))).1;obtain ⟨k0,k1,k2,k3,k4,k5,k6,k7,k8,k9,k10,k11,k12,k13⟩:=Q04 hq;clear hq hb;clear C7)
  |(go_at_call_of 37 (Value.int .i64 prec);refine ((HC.out w2 (Below.next0 H1.out (Xo0 H2))).2.1).mono ?_;rintro r w3 ⟨rfl,hb⟩;have H3:=Xh2 (Below.next0 (Xo0 H2) hb) ((Xe1 H2).call hb);have hq:=(HC.out w3 (Below.next0 H1.out (Xo0 H3))).1;obtain ⟨k0,k1,k2,k3,k4,k5,k6,k7,k8,k9,k10,k11,k12,k13⟩:=Q04 hq;clear hq hb))
 go_loopw [50] (fun s50 wr=>Qzq w1 L6 bl bx s50 wr) (fun iv _=>bl-(intOf iv).toNat)
 case atStart=>exact ⟨0,rfl,Ut _,by rw[List.take_zero];simpa[Q7l] using (Xe1 H14),(Xo0 H14)⟩
 case round=>
  obtain ⟨i,rfl,hi,I9,M0⟩:=hrel;have hq:=HC.out wr (Below.next0 H1.out M0)
  by_cases E0:i<bl
  ·have F0:(i:Int)<(bl:Int):=(by omega);obtain ⟨z,hz⟩:∃z,B[i]?=some z:=⟨_,Ub (by omega)⟩;obtain ⟨b0,o0,rfl,Z0,R1⟩:∃b o,ba=some ⟨b,o,none⟩/\b<wr.heap.size/\∀j x,B[j]?=some x->Quz wr b (o+j*6) x:=by
    rcases hq.2.2.2.2.2.2.2.1.b.2.2.2 with h0|h0
    ·simp only at h0;rw[h0] at hz;simp at hz
    ·exact h0
   obtain ⟨pa,pl,pc,qa,ql,qc,⟨y0,y1,y2,y3,y4,y5⟩,A5,o4⟩:=R1 i z hz;have O1:=(Xo1 HR).box.2.2 z (Ug hz);obtain ⟨u1,JZ⟩:∃t,dyT z.lo.val=t:=⟨_,rfl⟩;obtain ⟨u2,Qu⟩:∃t,dyT z.hi.val=t:=⟨_,rfl⟩;have i5:u1.length<=1401:=(by rw[<-JZ];exact (Q1z A5 O1.1).2);have o7:u2.length<=1401:=(by rw[<-Qu];exact (Q1z o4 O1.2.1).2);obtain ⟨V0,hV0⟩:∃V,wr.alloc (.cells #[.bool z.lo.neg,.int .i64 z.lo.exp,.slice pa pl pc,.bool z.hi.neg,.int .i64 z.hi.exp,.slice qa ql qc] 44)=V:=⟨_,rfl⟩;have hC6:=Q3h.new wr [.bool z.lo.neg,.int .i64 z.lo.exp,.slice pa pl pc,.bool z.hi.neg,.int .i64 z.hi.exp,.slice qa ql qc] 44
   change Q3h (wr.alloc (.cells #[.bool z.lo.neg,.int .i64 z.lo.exp,.slice pa pl pc,.bool z.hi.neg,.int .i64 z.hi.exp,.slice qa ql qc] 44)) _ _ at hC6
   have P3:Bw wr (wr.alloc (.cells #[.bool z.lo.neg,.int .i64 z.lo.exp,.slice pa pl pc,.bool z.hi.neg,.int .i64 z.hi.exp,.slice qa ql qc] 44)):=Ba;have YO:=Q0p wr (.cells #[.bool z.lo.neg,.int .i64 z.lo.exp,.slice pa pl pc,.bool z.hi.neg,.int .i64 z.hi.exp,.slice qa ql qc] 44);rw[hV0] at hC6 P3 YO;have G3:bx[i]?=some (z.lo.val,z.hi.val):=(by rw[<-(Xo0 HX),UK,hz];rfl);have K6:L6++Q7l (bx.take (i+1))=L6++Q7l (bx.take i)++Q22 Qh9 (u1++32::u2):=(by rw[Q6i G3,Qe0,JZ,Qu,UN]);obtain ⟨T,ZP⟩:∃t,L6++Q7l (bx.take i)=t:=⟨_,rfl⟩;have R8:T.length+Qh9.length+u1.length+u2.length<=100000000:=by
    have h1:=Q9w (bx.take i) (fun b hb=>by
     rw[<-(Xo0 HX)] at hb;obtain ⟨y,hy,rfl⟩:=Tx.1 (Ts hb);obtain ⟨j,hj⟩:=UQ.1 hy;obtain ⟨_,_,_,_,_,_,_,m1,m2⟩:=R1 j y hj;have JH:=(Xo1 HR).box.2.2 y hy;exact ⟨(Q1z m1 JH.1).2,(Q1z m2 JH.2.1).2⟩)
    have h2:(bx.take i).length<=4:=by
     have:=(Xo1 HR).box.2.1;simp only at this;rw[UW];omega
    have h3:=UY 2810 h2;have h4:=HL.out.all;have h5:Qh9.length=3:=rfl;rw[<-ZP,Uh];omega
   rw[ZP] at I9 K6;have HV:=Ua (fun V (hV:Bw V0 V)=>have hb:=Below.next0 P3 hV;And.intro (hC6.step hV YO) (And.intro (Q6l (A5.step hb) O1.1 (hq.2.2.2.2.2.2.2.2.1.step hb) JZ) (And.intro (Q6l (o4.step hb) O1.2.1 (hq.2.2.2.2.2.2.2.2.1.step hb) Qu) (And.intro (I9.call hb) (Below.next0 M0 hb)))));have HT:=Xh2 K6 R8;clear hq R1 A5 o4 O1 JZ Qu i5 o7 hC6 P3 YO G3 K6 ZP R8 I9 M0 hz
   go_upto_region 14 with fail
   clear hV0;refine Q2a (by kernel_rfl) 8 rfl (fun W=>Bw V0 W) (fun _ _ h h'=>Below.next0 h h') (Q40 [.func (.func 34) #[] #[.pointer (some ⟨w1.heap.size,0,none⟩)],.pointer (some ⟨wr.heap.size,0,none⟩),.agg #[.bool z.lo.neg,.int .i64 z.lo.exp,.slice pa pl pc],.string ⟨u1.toArray⟩,.pointer (some ⟨wr.heap.size,3,none⟩),.agg #[.bool z.hi.neg,.int .i64 z.hi.exp,.slice qa ql qc],.string ⟨u2.toArray⟩,undef] (Q1h [(7,fun v W=>∃g,v=.slice (some ⟨g,0,none⟩) 3 3/\W.heap[g]?=some (.cells #[.string ⟨#[98,111,120]⟩,.string ⟨u1.toArray⟩,.string ⟨u2.toArray⟩] 9 (0,0)))])) (Q0c (Q0h (Qyu (fun _ _ _ ⟨g,h1,h2⟩ hb=>⟨g,h1,(hb.block g (Uq.1 h2).1).trans h2⟩)))) (fun W'=>Q60 w1.heap.size w1.heap.size (L6++Q7l (bx.take (i+1))) W'/\Bw w1 W') (by kernel_rfl) (by kernel_rfl) (by kernel_rfl) (by kernel_rfl) (Q01 V0) ?_ ?_ ?_
   ·skip
    repeat' (first|exact Q8n|refine Q8m ?_ ?_)
    all_goals first
     |(refine Q1u rfl fun A W hW G0 hd hd=>?_
       simp[Q7q,Region.binds,Q1h] at hd;have e4:=Q0d G0 4 (by kernel_rfl) rfl;have e6:=Q0d G0 6 (by kernel_rfl) rfl;have hq:=HV.out W hW;obtain ⟨c0,c1,c2,c3,c4,c5⟩:=Q9o hq.1
       first
       |(refine Q2x rfl rfl ?_;simp[go_sem,hd,e4,e6,c0,c1,c2,c3,c4,c5];done)
       |(refine Q29 rfl rfl ?_ hq.2.1;simp[go_sem,hd];done)
       |(refine Q29 rfl rfl ?_ hq.2.2.1;simp[go_sem,hd];done))
     |skip
    ·intro A W hW G0 C0;have e57:=Q12 C0 3 (by decide) rfl rfl rfl;have e60:=Q12 C0 6 (by decide) rfl rfl rfl;refine Q07 rfl ?_;exact Qt6 (Qfp 39 3 #[(0,.const (.string ⟨#[98,111,120]⟩)),(1,.tmp 57),(2,.tmp 60)] (by rfl) (parts':= #[(0,.string ⟨#[98,111,120]⟩),(1,.string ⟨u1.toArray⟩),(2,.string ⟨u2.toArray⟩)]) (by simp[go_sem,e57,e60]) (Qph W _ _ _)) (Ba) ((Q02 rfl).2 ⟨W.heap.size,rfl,Uo _ _⟩)
   ·intro A W hW G0 C0;obtain ⟨g,hv,hg⟩:=(Q02 rfl).1 (C0 7 (by decide));have e61:=Q44 hv;have e54:=Q12 C0 0 (by decide) rfl rfl rfl;have hq:=HV.out W hW;refine Qth (f:=34) (args:= #[.slice (some ⟨g,0,none⟩) 3 3,.pointer (some ⟨w1.heap.size,0,none⟩)]) (by simp[go_sem,e54,e61]) ((put3 w1.heap.size g T Qh9 u1 u2 W hq.2.2.2.1 hq.2.2.2.2.size hg (Xe1 HT)).mono ?_);rintro r w' ⟨rfl,C7,hb⟩;exact ⟨_,rfl,by rw[(Xo0 HT)];exact C7,hq.2.2.2.2.trans hb⟩
   intro vs W2 X2;simp only[Q0r,Act.put,Ur,Ux,Uv];have HF:=Ua X2;clear X2
   go_wp2_with fail
   exact ⟨⟨i+1,by simp,by omega,(Xo0 HF),(Xe1 HF)⟩,by simp only[intOf];omega⟩
  ·obtain rfl:i=bl:=(by omega);have F0:¬((i:Int)<(i:Int)):=(by omega);obtain ⟨Z,hZ⟩:∃t,L6++Q7l bx=t:=⟨_,rfl⟩;obtain ⟨K,hK⟩:∃t,Q0u 0 (Q0n F)=t:=⟨_,rfl⟩;have hF4:F.length<=4:=(Xo1 HR).field.2.1;have hKl:K.length<=800000:=by
    have h1:=Q5w (Qc2 hq.2.2.2.2.2.2.2.1.f (Xo1 HR).field) 0 (by simp only;omega);have h2:=UY 168200 hF4;rw[<-hK];simp only at h1;omega
   have Wr:Z.length<=100000/\Z≠[]:=by
    have h1:=Q9w bx (fun b hb=>by
     rw[<-(Xo0 HX)] at hb;obtain ⟨y,hy,rfl⟩:=Tx.1 hb;obtain ⟨j,hj⟩:=UQ.1 hy;have JH:=(Xo1 HR).box.2.2 y hy;rcases hq.2.2.2.2.2.2.2.1.b.2.2.2 with h0|⟨_,_,_,_,R1⟩
     ·simp only at h0;rw[h0] at hj;simp at hj
     ·obtain ⟨_,_,_,_,_,_,_,m1,m2⟩:=R1 j y hj;exact ⟨(Q1z m1 JH.1).2,(Q1z m2 JH.2.1).2⟩)
    have h2:bx.length<=4:=by
     have:=(Xo1 HR).box.2.1;simp only at this;rw[(Xe1 HX)];omega
    have h3:=UY 2810 h2;have h4:=HL.out.all;have h5:=HL.out.eq5;have h6:=congrArg List.length h5;rw[Uh,Qap] at h6;have h7:=congrArg List.length hZ;rw[Uh] at h7;exact ⟨by omega,fun e=>by rw[e,UP] at h7;omega⟩
   have Zx:¬9223372036854775807<Z.length+K.length:=(by omega);have o5:bx.take i=bx:=Uz (by rw[(Xe1 HX)];exact Uf _);rw[o5,hZ] at I9;have hYs:sv Y=.string (⟨Z.toArray⟩++⟨K.toArray⟩):=by
    rw[<-HY.out,<-UN,hZ,hK];unfold sv;refine congrArg Value.string ?_
    apply ByteArray.ext
    simp[UJ]
   have s1:∀U,Bw wr U->Calls Tryz.prog 39 #[.pointer (some ⟨w1.heap.size,0,none⟩)] U fun r w'=>r=.returned (.string ⟨Z.toArray⟩)/\Bw w1 w':=fun U hU=>by
    refine (Tryz.J0d w1.heap.size w1.heap.size Z U (I9.call hU) Wr.2).mono ?_;rintro r w' ⟨h1,h2⟩;exact ⟨h1,(M0.trans (hU.mono M0.size)).trans h2⟩
   have s3:∀U,Bw w1 U->Calls Tryz.prog 40 #[.slice fa fl fc] U fun r w'=>r=.returned (.string ⟨K.toArray⟩)/\Bw U w':=fun U hU=>by
    have hqU:=HC.out U (Below.next0 H1.out hU);refine (Qgy fa fl fc F U hqU.2.2.2.2.2.2.2.1.f hqU.2.2.2.2.2.2.2.2.2 hqU.2.2.2.2.2.2.2.2.1).mono ?_;rintro r w' ⟨h1,_,h2⟩;refine ⟨?_,h2⟩;rw[h1 (Xo1 HR).field,hK]
   have N0:=M0;obtain ⟨k0,k1,k2,k3,k4,k5,k6,k7,k8,k9,k10,k11,k12,k13⟩:=Q04 hq.1;have HZ:=Xh3 s1 s3 N0;have HYs:=Ua hYs;clear hq hZ hK hKl Wr o5 I9 hYs s1 s3 N0 M0
   go_upto_region 16 with fail
   go_region_with (first
    |(go_at_call 39
      refine ((Xo0 HZ) _ (by first|exact HPq.out|exact Below.next0 HPq.out (Q01 _))).mono ?_;rintro r wF ⟨rfl,hb⟩;have HF:=Ua hb;clear hb)
    |(go_at_call 39
      refine ((Xo0 HZ) _ (by first|exact Uc _ _|exact Q01 _)).mono ?_;rintro r wS ⟨rfl,hb⟩;have HS:=Ua hb;have hq:=(HC.out wS (Below.next0 H1.out hb)).1;obtain ⟨k0,k1,k2,k3,k4,k5,k6,k7,k8,k9,k10,k11,k12,k13⟩:=Q04 hq;clear hb hq)
    |(go_at_call 40
      refine ((Xo1 HZ) _ (by first|exact HS.out|exact HS.out.trans ((Q01 _).mono HS.out.size))).mono ?_;rintro r wF ⟨rfl,hb⟩;have K3:Bw w1 wF:=by first|exact Below.next0 HS.out hb|exact Below.next0 (HS.out.trans ((Q01 _).mono HS.out.size)) hb
      have HF:=Ua K3;clear hb K3)
    |(go_at_call 40
      refine ((Xo1 HZ) _ (by first|exact (Xe2 HZ)|exact (Xe2 HZ).trans ((Q01 _).mono (Xe2 HZ).size))).mono ?_;rintro r wP ⟨rfl,hb⟩;have K3:Bw wr wP:=by first|exact hb|exact Below.next0 (Q01 _) hb
      have HPq:=Ua K3;clear hb K3))
   all_goals
    go_wp2_with fail
    go_ret;exact ⟨by rw[HYs.out];rfl,Below.next0 (Below.next0 (Xe2 HR) H1.out) HF.out⟩
structure Qh3 (w w':World) (b:Nat) (vs:LV):Prop where
 size:w.heap.size<=w'.heap.size
 block:∀k,k<w.heap.size->k≠b->w'.heap[k]?=w.heap[k]?
 was:Blk w b vs
theorem Qh3.cell {w w':World} {b:Nat} {vs:LV} (h:Qh3 w w' b vs) {p:Addr} {v:Value} (hp:w.cell? p=some v) (hn:p.block≠b):w'.cell? p=some v:=(UR (h.block _ (UI hp) hn)).trans hp
theorem Qh3.in_ {w w':World} {b i:Nat} {vs:LV} (h:Qh3 w w' b vs) {v:Value} (hp:w.cell? ⟨b,i,none⟩=some v):vs[i]?=some v:=by
 by_cases hi:i<vs.length
 ·have h1:=h.was.c i _ (Ub hi);rw[hp] at h1;rw[Ub hi];exact h1.symm
 ·have:=h.was.e i (by omega);rw[hp] at this;cases this
structure Odd (vs:LV):Prop where
 nou:∀u∈vs,NoU u
 first:∀e:Int,vs[0]?≠some (.int .i64 e)
 two:∀i a l c a' l' c',vs[i+2]?=some (.slice a l c)->vs[i+3]?=some (.slice a' l' c')->False
theorem WordsIn.only {w w':World} {b:Nat} {vs:LV} (h:Qh3 w w' b vs) (ho:Odd vs) {a:OA} {l c:Nat} {L:LN} (hw:WordsIn w a l c L):WordsIn w' a l c L:=by
 refine ⟨hw.len,hw.cap,hw.most,hw.low,?_⟩;rcases hw.rd with h0|⟨g,o,rfl,hg,hc⟩
 ·exact .inl h0
 ·refine .inr ⟨g,o,rfl,Ue hg h.size,fun j y hy=>h.cell (hc j y hy) ?_⟩;intro e;have e:g=b:=e;subst e;exact ho.nou _ (Ug (h.in_ (hc j y hy))) y rfl
theorem Q0i.only {w w':World} {b:Nat} {vs:LV} (h:Qh3 w w' b vs) (ho:Odd vs) {a:OA} {l c:Nat} {x:Q39} (hw:Q0i w a l c x):Q0i w' a l c x:=⟨hw.lie.only h ho,hw.lo,hw.hi⟩
theorem Q0q.only [LT ZK] [Nonempty (PLift Zz)] {w w':World} {b:Nat} {vs:LV} (h:Qh3 w w' b vs) (ho:Odd vs) {a:OA} {l c:Nat} {E:List Int} (hi:Q0q w a l c E):Q0q w' a l c E:=by
 refine ⟨hi.len,hi.cap,hi.most,hi.rng,?_⟩;rcases hi.rd with h0|⟨g,o,rfl,hg,hc⟩
 ·exact .inl h0
 ·refine .inr ⟨g,o,rfl,Ue hg h.size,fun j y hy=>h.cell (hc j y hy) ?_⟩;intro e;have e:g=b:=e;subst e;obtain rfl:o=0:=hi.rng.2 _ _ rfl zz_t;cases E with
  |nil=>simp at hy
  |cons z r=>
   have h1:=h.in_ (hc 0 z rfl);exact ho.first z h1
theorem Q0e.only [LT ZK] [Nonempty (PLift Zz)] {w w':World} {b:Nat} {vs:LV} (h:Qh3 w w' b vs) (ho:Odd vs) {a:OA} {n c:Nat} {ms:List Q00} (hm:Q0e w a n c ms):Q0e w' a n c ms:=by
 obtain ⟨h1,h2,h3,h4⟩:=hm;refine ⟨h1,h2,h3,?_⟩;rcases h4 with h4|⟨g,o,h5,h6,h7⟩
 ·exact .inl h4
 ·refine .inr ⟨g,o,h5,Ue h6 h.size,fun j m hj=>?_⟩;obtain ⟨aw,lw,cw,ae,le,ce,k0,k1,k2,k3,k4,k5,k6⟩:=h7 j m hj;have hgb:g≠b:=by
   intro e;subst e;refine ho.two (o+j*4) aw lw cw ae le ce (h.in_ k2) (h.in_ k3)
  exact ⟨aw,lw,cw,ae,le,ce,h.cell k0 hgb,h.cell k1 hgb,h.cell k2 hgb,h.cell k3 hgb,k4.only h ho,k5.only h ho,k6⟩
theorem Q1v.only [LT ZK] [Nonempty (PLift Zz)] {w w':World} {b:Nat} {vs:LV} (h:Qh3 w w' b vs) (ho:Odd vs) {a:OA} {n c:Nat} {F:List (List Q00)} (hF:Q1v w a n c F) (ha:∀x,a=some x->x.block≠b):Q1v w' a n c F:=by
 obtain ⟨h1,h2,h3,h4⟩:=hF;refine ⟨h1,h2,h3,?_⟩;rcases h4 with h4|⟨g,o,h5,h6,h7⟩
 ·exact .inl h4
 ·refine .inr ⟨g,o,h5,Ue h6 h.size,fun j ms hj=>?_⟩;obtain ⟨p,l,d,k0,k1⟩:=h7 j ms hj;exact ⟨p,l,d,h.cell k0 (by have:=ha _ h5;exact this),k1.only h ho⟩
theorem Q4o.only {w w':World} {b B:Nat} {vs:LV} (h:Qh3 w w' b vs) (ho:Odd vs) (hb:b<B) {p:Pl} {L:List IvV} (hL:Q4o w B p L):Q4o w' B p L:=by
 obtain ⟨xs,hr⟩:=hL.row;have P0:∀x,p.a=some x->x.block≠b:=fun x hx=>by have:=(hL.lt hx).1;omega
 refine ⟨⟨xs,hr.keep fun x hx=>h.block _ (hL.lt hx).2 (P0 x hx)⟩,hL.len,fun j x hx=>?_⟩;obtain ⟨g,ha,a,l,c,a2,m,d,⟨h0,h1,h2,h3,h4,h5⟩,h6,h7⟩:=hL.ent j x hx;have hg:=P0 _ ha;exact ⟨g,ha,a,l,c,a2,m,d,⟨h.cell h0 hg,h.cell h1 hg,h.cell h2 hg,h.cell h3 hg,h.cell h4 hg,h.cell h5 hg⟩,h6.only h ho,h7.only h ho⟩
theorem Qh3.set {w:World} {b:Nat} {vs:LV} (hb:Blk w b vs) (i:Nat) (v:Value):Qh3 w (w.setCell ⟨b,i,none⟩ v) b vs:=⟨by rw[Tj];exact Uf _,fun k _ hk=>Td _ _ _ _ hk,hb⟩
theorem Qh3.more {w w':World} {b:Nat} {vs:LV} (h:Qh3 w w' b vs) (i:Nat) (v:Value):Qh3 w (w'.setCell ⟨b,i,none⟩ v) b vs:=⟨by rw[Tj];exact h.size,fun k h1 hk=>(Td _ _ _ _ hk).trans (h.block k h1 hk),h.was⟩
theorem Qfq (p:RpP) (x:RpV):Odd (rpL p x):=by
 refine ⟨Q72 _ _,fun e h=>by simp[rpL] at h,fun i a l c a' l' c' h1 h2=>?_⟩
 match i with
 |0|1|2|3|4|5|6|7|8|9|10|11|12=>simp[rpL] at h1 h2
 |n+13=>simp[rpL] at h1
def zpL:LV:=[.slice none 0 0,.slice none 0 0,.bool false,.int .i64 0,.slice none 0 0,.bool false,.int .i64 0,.slice none 0 0,.bool false,.int .i64 0,.slice none 0 0,.int .i64 0,.int .i64 0,.int .i64 0]
theorem Qjw:Odd zpL:=by
 refine ⟨fun u hu=>?_,fun e h=>by simp[zpL] at h,fun i a l c a' l' c' h1 h2=>?_⟩
 ·simp only[zpL,UG,Xa6,or_false] at hu;rcases hu with rfl|rfl|rfl|rfl|rfl|rfl|rfl|rfl|rfl|rfl|rfl|rfl|rfl|rfl <;> first|exact Q2w _|exact Q3b _|exact Q5l _ _ _
 ·match i with
  |0|1|2|3|4|5|6|7|8|9|10|11=>simp[zpL] at h1 h2
  |n+12=>simp[zpL] at h1
theorem Qw0 {x:RpV} {st:PrS} (h:StM x st) (hf:Qvw st) (ho:st.over=none) (Fv:List (List Q00)):(⟨Fv,x.box,x.til,x.most,x.least,x.prec,x.order,x.budget⟩:Q33).prob=st.prob (Q0n Fv):=by
 obtain ⟨f1,f2,f3,f4⟩:=hf ho;have hd:∀{y:Q39} {d:Option Dyadic},Qng y d->d≠none->y.val=d.getD 0:=fun {y d} hy hn=>by
  cases d with
  |none=>exact absurd rfl hn
  |some z=>exact (hy z rfl).2
 have Yh:x.box.map (fun b=>(b.lo.val,b.hi.val))=st.box.map fun b=>(b.1.getD 0,b.2.getD 0):=by
  apply Xax
  intro j;rw[UK,UK]
  by_cases hj:j<x.box.length
  ·have VC:j<st.box.length:=(by rw[<-h.len];exact hj);rw[Ub hj,Ub VC];obtain ⟨h1,h2⟩:=h.box j _ _ (Ub hj) (Ub VC);obtain ⟨n1,n2⟩:=f4 _ (List.getElem_mem VC);simp only[UE,hd h1 n1,hd h2 n2]
  ·rw[UU (by omega),UU (by rw[<-h.len];omega)];rfl
 unfold Q33.prob PrS.prob;simp only[Yh,hd h.til f1,hd h.most f2,hd h.least f3,h.prec,h.order,h.budget,Xar]
structure OkV (x:Q33):Prop where
 til:x.til.ok
 most:x.most.ok
 least:x.least.ok
 box:∀b∈x.box,b.lo.ok/\b.hi.ok
 prec:0<=x.prec
 order:0<=x.order
 budget:0<=x.budget
theorem Qzr {x:RpV} {st:PrS} (h:StM x st) (hf:Qvw st) (ho:st.over=none) (Fv:List (List Q00)):OkV ⟨Fv,x.box,x.til,x.most,x.least,x.prec,x.order,x.budget⟩:=by
 obtain ⟨f1,f2,f3,f4⟩:=hf ho;have hd:∀{y:Q39} {d:Option Dyadic},Qng y d->d≠none->y.ok:=fun {y d} hy hn=>by
  cases d with
  |none=>exact absurd rfl hn
  |some z=>exact (hy z rfl).1
 refine ⟨hd h.til f1,hd h.most f2,hd h.least f3,fun b hb=>?_,by show 0<=x.prec;rw[h.prec];omega,by show 0<=x.order;rw[h.order];omega,by show 0<=x.budget;rw[h.budget];omega⟩;obtain ⟨j,hj⟩:=UQ.1 hb;have hj1:j<x.box.length:=(Ui.1 hj).1;have VC:j<st.box.length:=by rw[<-h.len];exact hj1
 obtain ⟨h1,h2⟩:=h.box j _ _ hj (Ub VC);obtain ⟨n1,n2⟩:=f4 _ (List.getElem_mem VC);exact ⟨hd h1 n1,hd h2 n2⟩
def Qy6 [LT ZK] (w:World) (X:Except (Nat × Int) Qa8) (r:Ending) (w':World):Prop:=Bw w w'/\match X with
 | .error (q,e)=>r=.returned (.tuple #[.agg zpL.toArray,.int .i64 (q:Int),.int .i64 e])
 | .ok T=>∃p x,Q2g w' p x/\x.prob=T/\Q1w x.field/\OkV x/\(Q24 x->r=.returned (.tuple #[.agg (Q46 p x).toArray,.int .i64 0,.int .i64 0]))/\(¬Q24 x->r=.returned (.tuple #[.agg zpL.toArray,.int .i64 0,.int .i64 1]))
theorem Qy7 {w:World} {b:Nat} {vs:LV} (h:Blk w b vs) (hl:14<=vs.length):w.frozen? ⟨b,0,none⟩=false/\w.frozen? ⟨b,1,none⟩=false/\w.frozen? ⟨b,2,none⟩=false/\w.frozen? ⟨b,3,none⟩=false/\w.frozen? ⟨b,4,none⟩=false/\w.frozen? ⟨b,5,none⟩=false/\w.frozen? ⟨b,6,none⟩=false/\w.frozen? ⟨b,7,none⟩=false/\w.frozen? ⟨b,8,none⟩=false/\w.frozen? ⟨b,9,none⟩=false/\w.frozen? ⟨b,10,none⟩=false/\w.frozen? ⟨b,11,none⟩=false/\w.frozen? ⟨b,12,none⟩=false/\w.frozen? ⟨b,13,none⟩=false:=
 ⟨h.f _ (by omega),h.f _ (by omega),h.f _ (by omega),h.f _ (by omega),h.f _ (by omega),h.f _ (by omega),h.f _ (by omega),h.f _ (by omega),h.f _ (by omega),h.f _ (by omega),h.f _ (by omega),h.f _ (by omega),h.f _ (by omega),h.f _ (by omega)⟩
def Qpq (w:World) (b:Nat) (v0 v1 v2 v3 v4 v5 v6 v7 v8 v9 v10 v11 v12 v13:Value):World:=(((((((((((((w.setCell ⟨b,0,none⟩ v0).setCell ⟨b,1,none⟩ v1).setCell ⟨b,2,none⟩ v2).setCell ⟨b,3,none⟩ v3).setCell ⟨b,4,none⟩ v4).setCell ⟨b,5,none⟩ v5).setCell ⟨b,6,none⟩ v6).setCell ⟨b,7,none⟩ v7).setCell ⟨b,8,none⟩ v8).setCell ⟨b,9,none⟩ v9).setCell ⟨b,10,none⟩ v10).setCell ⟨b,11,none⟩ v11).setCell ⟨b,12,none⟩ v12).setCell ⟨b,13,none⟩ v13
section
variable {w:World} {b:Nat} (v0 v1 v2 v3 v4 v5 v6 v7 v8 v9 v10 v11 v12 v13:Value)
theorem Qjx (h:Blk w b zpL):Blk (Qpq w b v0 v1 v2 v3 v4 v5 v6 v7 v8 v9 v10 v11 v12 v13) b [v0,v1,v2,v3,v4,v5,v6,v7,v8,v9,v10,v11,v12,v13]:=((((((((((((((h.set (i:=0) (by decide) v0).set (i:=1) (by simp[zpL]) v1).set (i:=2) (by simp[zpL]) v2).set (i:=3) (by simp[zpL]) v3).set (i:=4) (by simp[zpL]) v4).set (i:=5) (by simp[zpL]) v5).set (i:=6) (by simp[zpL]) v6).set (i:=7) (by simp[zpL]) v7).set (i:=8) (by simp[zpL]) v8).set (i:=9) (by simp[zpL]) v9).set (i:=10) (by simp[zpL]) v10).set (i:=11) (by simp[zpL]) v11).set (i:=12) (by simp[zpL]) v12).set (i:=13) (by simp[zpL]) v13)
theorem Qpr (h:Blk w b zpL):Qh3 w (Qpq w b v0 v1 v2 v3 v4 v5 v6 v7 v8 v9 v10 v11 v12 v13) b zpL:=((((((((((((((Qh3.set h 0 v0).more 1 v1).more 2 v2).more 3 v3).more 4 v4).more 5 v5).more 6 v6).more 7 v7).more 8 v8).more 9 v9).more 10 v10).more 11 v11).more 12 v12).more 13 v13)
theorem Qe1 {w0:World} {B:Nat} (hb:Below B w0 w) (hB:B<=b):Below B w0 (Qpq w b v0 v1 v2 v3 v4 v5 v6 v7 v8 v9 v10 v11 v12 v13):=((((((((((((((hb.setCell (p:=⟨b,0,none⟩) hB v0).setCell (p:=⟨b,1,none⟩) hB v1).setCell (p:=⟨b,2,none⟩) hB v2).setCell (p:=⟨b,3,none⟩) hB v3).setCell (p:=⟨b,4,none⟩) hB v4).setCell (p:=⟨b,5,none⟩) hB v5).setCell (p:=⟨b,6,none⟩) hB v6).setCell (p:=⟨b,7,none⟩) hB v7).setCell (p:=⟨b,8,none⟩) hB v8).setCell (p:=⟨b,9,none⟩) hB v9).setCell (p:=⟨b,10,none⟩) hB v10).setCell (p:=⟨b,11,none⟩) hB v11).setCell (p:=⟨b,12,none⟩) hB v12).setCell (p:=⟨b,13,none⟩) hB v13)
theorem Qti {w0:World} {B:Nat} (h:Blk w b zpL) (hb:Below B w0 w) (hB:B<=b):∃V,Qpq w b v0 v1 v2 v3 v4 v5 v6 v7 v8 v9 v10 v11 v12 v13=V/\Qh3 w V b zpL/\Blk V b [v0,v1,v2,v3,v4,v5,v6,v7,v8,v9,v10,v11,v12,v13]/\Below B w0 V:=⟨_,rfl,Qpr v0 v1 v2 v3 v4 v5 v6 v7 v8 v9 v10 v11 v12 v13 h,Qjx v0 v1 v2 v3 v4 v5 v6 v7 v8 v9 v10 v11 v12 v13 h,Qe1 v0 v1 v2 v3 v4 v5 v6 v7 v8 v9 v10 v11 v12 v13 hb hB⟩
end
theorem Qe2 (s:ByteArray) (w:World) (hs:s.size<=1000000) (hT:Q1s w):∃W0,(w.alloc (.cells zpL.toArray 28)).alloc (.cells (zpL++[Value.int .i64 (-1)]).toArray 75)=W0/\Calls Tryz.prog 48 #[.pointer (some ⟨w.heap.size+1,0,none⟩),.string s] W0 (TopR W0 (w.heap.size+1) s.data.toList)/\Bw w W0/\Blk W0 w.heap.size zpL/\Q1s w/\W0.heap.size=w.heap.size+2:=by
 obtain ⟨W0,E1⟩:∃W0,(w.alloc (.cells zpL.toArray 28)).alloc (.cells (zpL++[Value.int .i64 (-1)]).toArray 75)=W0:=⟨_,rfl⟩;have D2:(w.alloc (.cells zpL.toArray 28)).heap.size=w.heap.size+1:=Uk _ _;have Q5:W0.heap.size=w.heap.size+2:=by rw[<-E1,Uk,D2]
 have Z0:Bw w W0:=by rw[<-E1];exact (Ba).alloc (by rw[D2];omega) _
 have hZ:Blk W0 w.heap.size zpL:=by
  rw[<-E1];exact (Blk.new w zpL 28).step (Ba) (by rw[D2];omega)
 have hRd:Blk W0 (w.heap.size+1) (rpL ⟨⟨none,0,0⟩,⟨none,0,0⟩,⟨none,0,0⟩,⟨none,0,0⟩⟩ ⟨[],⟨false,0,[]⟩,⟨false,0,[]⟩,⟨false,0,[]⟩,0,0,0,-1⟩):=by
  have h:=Blk.new (w.alloc (.cells zpL.toArray 28)) (zpL++[Value.int .i64 (-1)]) 75;rw[D2,E1] at h;exact h
 have E2:Q0i W0 none 0 0 ⟨false,0,[]⟩:=⟨⟨rfl,Uf _,by decide,fun x hx=>by simp at hx,.inl rfl⟩,by decide,by decide⟩;have htop:=Qtf (w.heap.size+1) s W0 hs (fun W hW=>hT.step (Z0.trans (hW.below (by omega) (by omega)))) 0 ⟨hRd,Q4o.nil_ _ _,E2,E2,E2⟩;exact ⟨W0,E1,htop,Z0,hZ,hT,Q5⟩
theorem Qh4 [LT ZK] (s:ByteArray) (w:World) (hs:s.size<=1000000) (hT:Q1s w) (q:Nat) (er:Int) (hY:Qey s.data.toList (s.data.toList.length+1) 0 0 PrS.empty=.error (q,er)):
 Calls Tryz.prog 16 #[.string s] w (Qy6 w (.error (q,er))):=by
 have HY:=Ua hY;clear hY;obtain ⟨W0,E1,Xq⟩:=Qe2 s w hs hT;have HT:=Ua Xq;clear Xq hT
 go_enter Tryz.func16,Tryz.ntmps16
 go_upto_region 2 with fail
 change Code.wp _ _ _ _ ((w.alloc (.cells zpL.toArray 28)).alloc (.cells (zpL++[Value.int .i64 (-1)]).toArray 75))
 rw[E1];clear E1
 go_upto_region 3 with (go_at_call 48;refine (Xo0 HT).mono ?_;rintro e W1 ⟨B,p,x,M1,J2,Xs,hm⟩;rw[HY.out] at hm;obtain ⟨rfl,rfl⟩:=hm
                        have I2:Blk W1 w.heap.size zpL:=(Xo2 HT).same (J2.block _ (by have:=(Xe4 HT);omega) (by omega));have A0:Bw w W1:=(Xo1 HT).trans (J2.below (by omega) (by have:=(Xe4 HT);omega));obtain ⟨k0,k1,k2,k3,k4,k5,k6,k7,k8,k9,k10,k11,k12,k13⟩:=Q04 I2.c;obtain ⟨f0,f1,f2,f3,f4,f5,f6,f7,f8,f9,f10,f11,f12,f13⟩:=Qy7 I2 (by decide);have HB:=Ua A0;clear M1 J2 Xs A0;have HZ:=Ua I2;clear I2)
 go_wp2_with fail
 have X1:=Qjx (.slice none 0 0) (.slice none 0 0) (.bool false) (.int .i64 0) (.slice none 0 0) (.bool false) (.int .i64 0) (.slice none 0 0) (.bool false) (.int .i64 0) (.slice none 0 0) (.int .i64 0) (.int .i64 0) (.int .i64 0) HZ.out;have D0:=Qe1 (.slice none 0 0) (.slice none 0 0) (.bool false) (.int .i64 0) (.slice none 0 0) (.bool false) (.int .i64 0) (.slice none 0 0) (.bool false) (.int .i64 0) (.slice none 0 0) (.int .i64 0) (.int .i64 0) (.int .i64 0) HB.out (Uf _);unfold Qpq at X1 D0;obtain ⟨c0,c1,c2,c3,c4,c5,c6,c7,c8,c9,c10,c11,c12,c13⟩:=Q04 X1.c;refine ⟨rfl,.tuple #[.agg zpL.toArray,.int .i64 (q:Int),.int .i64 5],by simp[results,go_sem,zpL,c0,c1,c2,c3,c4,c5,c6,c7,c8,c9,c10,c11,c12,c13],D0,?_⟩;rfl
def pK:Qa8:=⟨[[(1,[1])]],[(1,1)],1,dy 1 (-2),dy 1 (-20),64,4,100⟩
def sK:LU:=[112,114,101,99,32,54,52,10,111,114,100,101,114,32,52,10,98,117,100,103,101,116,32,49,48,48,10,117,110,116,105,108,32,49,10,109,111,115,116,32,49,112,45,50,10,108,101,97,115,116,32,49,112,45,50,48,10,98,111,120,32,49,32,49,10,120,49,39,32,61,32,120,49,10]
def sB:LU:=[112,114,101,99,32,54,52,10,111,114,100,101,114,32,48,10]
theorem Qtj:(1:Dyadic)=dy 1 0:=by decide+kernel
theorem Qh5 (e:Int) (h1: -65536<=e) (h2:e<=65536):Q64 (dy 1 e):=.inr ⟨1,e,rfl,rfl,by decide,h1,h2⟩
theorem Qc4:Q64 1:=by rw[Qtj];exact Qh5 0 (by decide) (by decide)
theorem Qe3 (e:Int):Q7a (dy 1 e):=⟨Qnw (by decide),by rw[Q5a];decide⟩
theorem Qnj:Qgb pK where
 field:=by
  refine ⟨Uf _,by decide,fun P hP=>?_⟩;have Vn:P=[(1,[1])]:=by simpa[pK] using hP
  subst Vn;refine ⟨List.pairwise_singleton _ _,by decide,fun p hp=>?_⟩;rw[UC] at hp;subst hp;exact ⟨by show (1:Dyadic)≠0;rw[Qtj];exact Qnw (by decide),Qc4,rfl,by decide,by decide⟩
 box:=fun b hb=>by
  have K3:b=(1,1):=by simpa[pK] using hb
  subst K3;exact ⟨Qc4,Qc4,by unfold Qec;decide+kernel⟩
 same:=rfl
 til:=⟨Qc4,by show Q7a 1;rw[Qtj];exact Qe3 0⟩
 most:=⟨Qh5 _ (by decide) (by decide),Qe3 _⟩
 least:=⟨Qh5 _ (by decide) (by decide),Qe3 _⟩
 ord:=by unfold Qec;decide+kernel
 prec:=⟨by decide,by decide⟩
 order:=⟨by decide,by decide⟩
 budget:=⟨by decide,by decide⟩
theorem Qtk:Qcu pK=sK:=by decide+kernel
theorem Qps:Qo5 sK=.ok pK:=by rw[<-Qtk];exact Qr8 Qnj
structure Qw1 (x:Q33):Prop extends OkV x where
 field:∃k,∀ms∈x.field,∀m∈ms,OkM k m/\Low (2^64) m.ws
 lt:Low (2^64) x.til.ws
 lm:Low (2^64) x.most.ws
 le:Low (2^64) x.least.ws
 lb:∀b∈x.box,Low (2^64) b.lo.ws/\Low (2^64) b.hi.ws
theorem Qy8 {w:World} {a:OA} {n c:Nat} {B:List IvV} (h:Q86 w a n c B) {x:IvV} (hx:x∈B):Low (2^64) x.lo.ws/\Low (2^64) x.hi.ws:=by
 obtain ⟨_,_,_,h0|⟨g,o,_,_,R1⟩⟩:=h
 ·rw[h0] at hx;cases hx
 ·obtain ⟨j,hj⟩:=UQ.1 hx;obtain ⟨_,_,_,_,_,_,_,h1,h2⟩:=R1 j x hj;exact ⟨h1.lie.low,h2.lie.low⟩
theorem Qtl [LT ZK] {w:World} {p:Qgo} {x:Q33} (h:Q2g w p x) (hF:Q1w x.field) (hO:OkV x):Qw1 x:=
 ⟨hO,⟨_,Qvz h.f hF⟩,h.t.lie.low,h.m.lie.low,h.e.lie.low,fun _ hb=>Qy8 h.b hb⟩
theorem Qjy {x y:Q39} (h1:x.ok) (l1:Low (2^64) x.ws) (h2:y.ok) (l2:Low (2^64) y.ws) (h:x.val=y.val):x=y:=by
 obtain ⟨e1,e2,e3⟩:=Qkd h1 l1 h2 l2 h;cases x;cases y;simp only at e1 e2 e3;rw[e1,e2,e3]
theorem Qwu:∀{B C:List IvV},(∀b∈B,(b.lo.ok/\b.hi.ok)/\Low (2^64) b.lo.ws/\Low (2^64) b.hi.ws)->(∀b∈C,(b.lo.ok/\b.hi.ok)/\Low (2^64) b.lo.ws/\Low (2^64) b.hi.ws)->B.map (fun b=>(b.lo.val,b.hi.val))=C.map (fun b=>(b.lo.val,b.hi.val))->B=C
 |[],[],_,_,_=>rfl
 |[],_::_,_,_,h=>by simp at h
 |_::_,[],_,_,h=>by simp at h
 |b::B,c::C,h1,h2,h=>by
  simp only[Xai,List.cons.injEq,Xat] at h;have hb:=h1 b (by simp);have hc:=h2 c (by simp);have e1:=Qjy hb.1.1 hb.2.1 hc.1.1 hc.2.1 h.1.1;have e2:=Qjy hb.1.2 hb.2.2 hc.1.2 hc.2.2 h.1.2;have e3:b=c:=by cases b;cases c;simp only at e1 e2;rw[e1,e2]
  rw[e3,Qwu (fun x hx=>h1 x (by simp[hx])) (fun x hx=>h2 x (by simp[hx])) h.2]
theorem Qw2 {x y:Q33} (hx:Qw1 x) (hy:Qw1 y) (h:x.prob=y.prob):x=y:=by
 unfold Q33.prob at h;simp only[Qa8.mk.injEq] at h;obtain ⟨e1,e2,e3,e4,e5,e6,e7,e8⟩:=h;obtain ⟨k,hk⟩:=hx.field;obtain ⟨j,hj⟩:=hy.field;have f1:=Qjv hk hj e1;have f2:=Qwu (fun b hb=>⟨hx.box b hb,hx.lb b hb⟩) (fun b hb=>⟨hy.box b hb,hy.lb b hb⟩) e2;have f3:=Qjy hx.til hx.lt hy.til hy.lt e3;have f4:=Qjy hx.most hx.lm hy.most hy.lm e4;have f5:=Qjy hx.least hx.le hy.least hy.le e5;have f6:x.prec=y.prec:=by have:=hx.prec;have:=hy.prec;omega
 have f7:x.order=y.order:=by have:=hx.order;have:=hy.order;omega
 have f8:x.budget=y.budget:=by have:=hx.budget;have:=hy.budget;omega
 cases x;cases y;simp only at f1 f2 f3 f4 f5 f6 f7 f8;rw[f1,f2,f3,f4,f5,f6,f7,f8]
theorem J08 {x:Q33} (h:Q24 x):OkV x:=⟨h.til.1,h.most.1,h.least.1,fun b hb=>⟨(h.box.2.2 b hb).1,(h.box.2.2 b hb).2.1⟩,by have:=h.prec;omega,by have:=h.order;omega,by have:=h.budget;omega⟩
theorem Qtm [LT ZK] {w:World} {p:Qgo} {x:Q33} (h:Q2g w p x) (hF:Q1w x.field) (hO:OkV x):Q24 x↔Qgb x.prob:=by
 have hp:=Qtl h hF hO;have hfl:x.prob.field.length=x.field.length:=UF ..;have V5:x.prob.box.length=x.box.length:=UF ..
 constructor
 ·intro hR;refine ⟨Qtg h.f hF,fun b hb=>?_,by rw[hfl,V5];exact hR.same,⟨Q3n hO.til hp.lt,hR.til.2⟩,⟨Q3n hO.most hp.lm,hR.most.2⟩,⟨Q3n hO.least hp.le,hR.least.2⟩,hR.ord,?_,?_,?_⟩
  ·obtain ⟨z,hz,rfl⟩:=Tx.1 hb;exact ⟨Q3n (hO.box z hz).1 (hp.lb z hz).1,Q3n (hO.box z hz).2 (hp.lb z hz).2,(hR.box.2.2 z hz).2.2⟩
  ·have:=hR.prec;show 8<=x.prec.toNat/\x.prec.toNat<=256;omega
  ·have:=hR.order;show 2<=x.order.toNat/\x.order.toNat<=10;omega
  ·have:=hR.budget;show 1<=x.budget.toNat/\x.budget.toNat<=4096;omega
 ·intro hR;have C4:x.box.length=x.field.length:=by rw[<-hfl,<-V5];exact hR.same
  refine ⟨hF,⟨by rw[C4];exact hF.1,by rw[C4];exact hF.2.1,fun z hz=>⟨(hO.box z hz).1,(hO.box z hz).2,(hR.box _ (Tx.2 ⟨z,hz,rfl⟩)).2.2⟩⟩,C4,⟨hO.til,hR.til.2⟩,⟨hO.most,hR.most.2⟩,⟨hO.least,hR.least.2⟩,hR.ord,?_,?_,?_⟩
  ·have:8<=x.prec.toNat/\x.prec.toNat<=256:=hR.prec;omega
  ·have:2<=x.order.toNat/\x.order.toNat<=10:=hR.order;omega
  ·have:1<=x.budget.toNat/\x.budget.toNat<=4096:=hR.budget;omega
def xK:Q33:=⟨[[⟨false,0,[1],[1]⟩]],[⟨⟨false,0,[1]⟩,⟨false,0,[1]⟩⟩],⟨false,0,[1]⟩,⟨false,-2,[1]⟩,⟨false,-20,[1]⟩,64,4,100⟩
theorem Qtn:xK.prob=pK:=by
 have h1:Q1r false 0 [1]=1:=by decide+kernel
 have h2:Q1r false (-2) [1]=dy 1 (-2):=by decide+kernel
 have h3:Q1r false (-20) [1]=dy 1 (-20):=by decide+kernel
 show (⟨[[(Q1r false 0 [1],[1])]],[(Q1r false 0 [1],Q1r false 0 [1])],Q1r false 0 [1],Q1r false (-2) [1],Q1r false (-20) [1],64,4,100⟩:Qa8)=pK
 rw[h1,h2,h3];rfl
theorem Qy9:Qw1 xK:=by
 have hl:Low (2^64) [1]:=fun x hx=>by rw[UC] at hx;subst hx;decide
 refine ⟨⟨by show Q0a false 0 [1];decide,by show Q0a false (-2) [1];decide,by show Q0a false (-20) [1];decide,fun b hb=>?_,by decide,by decide,by decide⟩,⟨1,fun ms D6 m hm=>?_⟩,hl,hl,hl,fun b hb=>?_⟩
 ·have K3:b=⟨⟨false,0,[1]⟩,⟨false,0,[1]⟩⟩:=by simpa[xK] using hb
  subst K3;exact ⟨by unfold Q39.ok;decide,by unfold Q39.ok;decide⟩
 ·have e1:ms=[⟨false,0,[1],[1]⟩]:=by simpa[xK] using D6
  subst e1;rw[UC] at hm;subst hm;exact ⟨by decide,hl⟩
 ·have K3:b=⟨⟨false,0,[1]⟩,⟨false,0,[1]⟩⟩:=by simpa[xK] using hb
  subst K3;exact ⟨hl,hl⟩
end Go.Proofs.YtidojbkhlenahaaGreatDoor
