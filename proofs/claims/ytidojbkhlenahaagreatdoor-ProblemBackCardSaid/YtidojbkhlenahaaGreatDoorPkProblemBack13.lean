/- Part 13. No condition. -/
import Derived.Shelf.SlSortCmp.WholeK
import Derived.Ground.SlsfProg
import Derived.Shelf.SlSortCmp.NoneTotal
import Derived.Test.YtidojbkhlenahaaGreatDoorPkProblemBack12
set_option maxRecDepth 100000
set_option maxHeartbeats 16000000
namespace Go.Proofs.YtidojbkhlenahaaGreatDoor
open Go.RowKit WordsM DecM
theorem Qjb:(Tryz.prog.info? 119).map (fun i=>(i.zero,i.size,i.bytes))=some (some .nilIface,1,16):=by kernel_rfl
theorem Qto:(Tryz.prog.info? 4).map (fun i=>(i.zero,i.size,i.bytes))=some (some (.bool false),1,1):=by kernel_rfl
theorem Q0p {T:TypeId} {z:Value} {s b:Nat} (h:(Tryz.prog.info? T).map (fun i=>(i.zero,i.size,i.bytes))=some (some z,s,b)):∃i0:TypeInfo,Tryz.prog.info? T=some i0/\i0.zero=some z/\i0.size=s/\i0.bytes=b:=by
 cases hi:Tryz.prog.info? T with
 |none=>rw[hi] at h;cases h
 |some i0=>
  rw[hi] at h;simp only[Uz,Uj,Xas] at h;exact ⟨i0,rfl,h.1,h.2.1,h.2.2⟩
theorem Q0q.keep {w w':World} {R:Nat} {s:ByteArray} {p m d:Int} {bad:Bool} {fp:Nat->Prop} (h:Q0q w R s p m d bad) (ht:Q0e fp w w') (hn:¬fp R):Q0q w' R s p m d bad:=
 ⟨(ht.cell (p:=⟨R,0,none⟩) h.lt hn).trans h.c0,(ht.cell (p:=⟨R,1,none⟩) h.lt hn).trans h.c1,(ht.cell (p:=⟨R,2,none⟩) h.lt hn).trans h.c2,(ht.cell (p:=⟨R,3,none⟩) h.lt hn).trans h.c3,(ht.cell (p:=⟨R,4,none⟩) h.lt hn).trans h.c4,
   (ht.frozen (p:=⟨R,0,none⟩) h.lt hn).trans h.f0,(ht.frozen (p:=⟨R,1,none⟩) h.lt hn).trans h.f1,(ht.frozen (p:=⟨R,2,none⟩) h.lt hn).trans h.f2,(ht.frozen (p:=⟨R,3,none⟩) h.lt hn).trans h.f3,(ht.frozen (p:=⟨R,4,none⟩) h.lt hn).trans h.f4,Uc h.lt ht.size,fun o ho=>(ht.cell (p:=⟨R,o,none⟩) h.lt hn).trans (h.c5 o ho)⟩
def fpR (b:Nat) (a:OA) (k:Nat):Prop:=k<=b∨∃x,a=some x/\x.block=k
structure Q6m (R:Nat) (w wr:World) (a:OA) (n c:Nat) (acc:List Ex) (vs:LV):Prop where
 turn:Q0e (OnR R) w wr
 cell:wr.cell? ⟨w.heap.size,0,none⟩=some (.slice a n c)
 frz:wr.frozen? ⟨w.heap.size,0,none⟩=false
 row:Row wr (w.heap.size+1) 119 1 a n c vs
 nodes:Q1a (fpR w.heap.size a) wr acc vs
 len:acc.length=n
theorem Q6m.lt {R:Nat} {w wr:World} {a:OA} {n c:Nat} {acc:List Ex} {vs:LV} (h:Q6m R w wr a n c acc vs):w.heap.size<wr.heap.size:=UA h.cell
theorem Q6m.step {R:Nat} {w wr w':World} {a:OA} {n c:Nat} {acc:List Ex} {vs:LV} (h:Q6m R w wr a n c acc vs) (hR:R<w.heap.size) (ht:Q0e (OnR R) wr w'):Q6m R w w' a n c acc vs:=
 ⟨h.turn.trans0 ht,(ht.cell (p:=⟨w.heap.size,0,none⟩) h.lt (fun (e:w.heap.size=R)=>by omega)).trans h.cell,(ht.frozen (p:=⟨w.heap.size,0,none⟩) h.lt (fun (e:w.heap.size=R)=>by omega)).trans h.frz,
   h.row.turn ht (fun x hx (e:x.block=R)=>by
    rcases h.row.form with ⟨h0,_⟩|⟨g,cur,h0,h1,_⟩
    ·rw[h0] at hx;cases hx
    ·rw[h0] at hx;injection hx with hx;subst hx
     have e:g=R:=e;omega),h.nodes.turn ht (fun k (hk:k=R)=>by subst hk;exact .inl (Xa1 hR)),h.len⟩
theorem Qjc {R:Nat} {w w3 w4:World} {a:OA} {n c:Nat} {acc:List Ex} {vs:LV} (h:Q6m R w w3 a n c acc vs) {o:Obj} (K6:(w3.alloc o).grownBy w4 (Value.slice a n c).ownBlock) (v:Value):
 Q0e (fun k=>k=w.heap.size∨∃x,a=some x/\x.block=k) w3 (w4.setCell ⟨w.heap.size,0,none⟩ v):=by
 have h1:Q0e (fun k=>k=w.heap.size∨∃x,a=some x/\x.block=k) w3 (w3.alloc o):=Q0e.of_below (Ba) _;have h2:Q0e (fun k=>k=w.heap.size∨∃x,a=some x/\x.block=k) (w3.alloc o) w4:=Q0e.of_grown K6 fun r hr _=>by
  cases a with
  |none=>simp[Value.ownBlock] at hr
  |some x=>
   simp only[Value.ownBlock,Uj] at hr;exact .inr ⟨x,rfl,hr⟩
 exact (h1.trans0 h2).trans0 (Q0e.setCell _ _ (p:=⟨w.heap.size,0,none⟩) (.inl rfl) _)
theorem Q1k {w:World} {B:Nat} {T:TypeId} {a:OA} {n c:Nat} {vs:LV} (h:Row w B T 1 a n c vs) {x:Addr} (hx:a=some x):B<=x.block/\x.block<w.heap.size:=by
 rcases h.form with ⟨h0,_⟩|⟨g,cur,h0,h1,h2,_⟩
 ·rw[h0] at hx;cases hx
 ·rw[h0] at hx;injection hx with hx;subst hx;exact ⟨h1,h2⟩
theorem Qtp {R:Nat} {w wr w3 w4:World} {a:OA} {n c:Nat} {acc:List Ex} {vs:LV} (hR:R<w.heap.size) (hr:Q6m R w wr a n c acc vs) (ht:Q0e (OnR R) wr w3) {o:Obj} (K6:(w3.alloc o).grownBy w4 (Value.slice a n c).ownBlock) {g cap:Nat} {x:Ex} {v:Value} (hx:Q2w (·<wr.heap.size) w3 x v)
 (I0:Row w4 (w.heap.size+1) 119 1 (some ⟨g,0,none⟩) (n+1) cap (vs++[v])) (Y1:(Value.slice a n c).ownBlock=some g∨g=w3.heap.size+1) (ZW:w4.frozen? ⟨w.heap.size,0,none⟩=false) (C2:∃u,w4.cell? ⟨w.heap.size,0,none⟩=some u):
 Q6m R w (w4.setCell ⟨w.heap.size,0,none⟩ (.slice (some ⟨g,0,none⟩) (n+1) cap)) (some ⟨g,0,none⟩) (n+1) cap (acc++[x]) (vs++[v]):=by
 have h:=hr.step hR ht;have JY:=Qjc h K6 (.slice (some ⟨g,0,none⟩) (n+1) cap);have hfb:∀k,(k=w.heap.size∨∃x,a=some x/\x.block=k)->fpR w.heap.size a k:=fun k hk=>hk.elim (fun e=>.inl (Xbw e)) .inr;have Kw:∀k,fpR w.heap.size (some ⟨g,0,none⟩) k->fpR w.heap.size a k∨w3.heap.size<=k:=by
  rintro k (hk|⟨y,hy,hk⟩)
  ·exact .inl (.inl hk)
  ·injection hy with hy;subst hy;have hk:g=k:=hk;subst hk;rcases Y1 with h1|h1
   ·cases a with
    |none=>simp[Value.ownBlock] at h1
    |some z=>
     simp only[Value.ownBlock,Uj] at h1;exact .inl (.inr ⟨z,rfl,h1⟩)
   ·exact .inr (by omega)
 have Vi:=I0.fresh;refine ⟨h.turn.trans JY fun k hk hf=>?_,?_,?_,?_,?_,?_⟩
 ·exfalso;rcases hf with rfl|⟨y,hy,rfl⟩
  ·omega
  ·have:=Q1k h.row hy;omega
 ·obtain ⟨u,hu⟩:=C2;exact UE _ _ _ (by rw[hu];rfl)
 ·exact (Uo _ _ _ _).trans ZW
 ·exact I0.far (p:=⟨w.heap.size,0,none⟩) (fun y hy=>by injection hy with hy;subst hy;show g≠w.heap.size;omega) _
 ·have hU:∀k,(fpR w.heap.size a k∨fpR w.heap.size (some ⟨g,0,none⟩) k)->fpR w.heap.size a k∨w3.heap.size<=k:=fun k hk=>hk.elim .inl (Kw k);have hA:∀k,fpR w.heap.size a k->k<wr.heap.size:=by
   rintro k (hk|⟨y,hy,rfl⟩)
   ·exact TS hk hr.lt
   ·exact (Q1k hr.row hy).2
  have K5:=((h.nodes.more hU).turn JY (fun k hk=>.inl (hfb k hk))).more (fp':=fpR w.heap.size (some ⟨g,0,none⟩)) (fun k hk=>.inl (.inr hk));have h1:=((hx.more (fp':=fun k=>fpR w.heap.size a k∨fpR w.heap.size (some ⟨g,0,none⟩) k) fun k hk=>(hU k hk).imp (hA k) id).turn JY (fun k hk=>.inl (hfb k hk))).more (fp':=fpR w.heap.size (some ⟨g,0,none⟩)) (fun k hk=>.inl (.inr hk));exact K5.snoc h1
 ·rw[Uh,h.len];rfl
def Qtq (R:Nat) (s:ByteArray) (m d:Int) (w:World) (n:Nat) (acc:List Ex) (vs:LV) (r0:PR Ex) (wx:World):Prop:=
 ∃g cap t u,wx.cell? ⟨w.heap.size,0,none⟩=some (.slice (some ⟨g,0,none⟩) (n+1) cap)/\Q0e (OnR R) w wx/\match r0 with
  | .ok (x,q)=>Q6m R w wx (some ⟨g,0,none⟩) (n+1) cap (acc++[x]) (vs++[.iface t u])/\Q0q wx R s (q:Int) m d false/\q<=s.size
  | .error q=>Q0q wx R s (q:Int) m d true/\q<=s.size
theorem Qwi {R:Nat} {s:ByteArray} {m d:Int} {w wr w3 w4:World} {a:OA} {n c:Nat} {acc:List Ex} {vs:LV} {r0:PR Ex} {e:Ending} {t:TypeId} {u:Value} (hR:R<w.heap.size) (hr:Q6m R w wr a n c acc vs) (hN:Q6w R s m d r0 wr e w3) (he:e=.returned (.iface t u)) {o:Obj} (K6:(w3.alloc o).grownBy w4 (Value.slice a n c).ownBlock) {g cap:Nat}
 (I0:Row w4 (w.heap.size+1) 119 1 (some ⟨g,0,none⟩) (n+1) cap (vs++[.iface t u])) (Y1:(Value.slice a n c).ownBlock=some g∨g=w3.heap.size+1) (ZW:w4.frozen? ⟨w.heap.size,0,none⟩=false) (C2:w4.cell? ⟨w.heap.size,0,none⟩=some (.slice a n c)):
 Qtq R s m d w n acc vs r0 (w4.setCell ⟨w.heap.size,0,none⟩ (.slice (some ⟨g,0,none⟩) (n+1) cap)):=by
 subst he;obtain ⟨t',u',he,ht,h2⟩:=hN;injection he with he;injection he with e1 e2;subst e1;subst e2;have p5:=hr.step hR ht;have JY:=Qjc p5 K6 (.slice (some ⟨g,0,none⟩) (n+1) cap);have hnR:¬(R=w.heap.size∨∃x,a=some x/\x.block=R):=by
  rintro (h|⟨y,hy,h⟩)
  ·omega
  ·have:=Q1k p5.row hy;omega
 have hfw:Q0e (OnR R) w (w4.setCell ⟨w.heap.size,0,none⟩ (.slice (some ⟨g,0,none⟩) (n+1) cap)):=p5.turn.trans JY fun k hk hf=>by
  exfalso;rcases hf with rfl|⟨y,hy,rfl⟩
  ·omega
  ·have:=Q1k p5.row hy;omega
 refine ⟨g,cap,t,u,UE _ _ _ (by rw[C2];rfl),hfw,?_⟩;cases r0 with
 |error q=>exact ⟨h2.1.keep JY hnR,h2.2⟩
 |ok z=>exact ⟨Qtp hR hr ht K6 h2.1 I0 Y1 ZW ⟨_,C2⟩,h2.2.1.keep JY hnR,h2.2.2⟩
theorem Qq6 (sub:Nat->PR Ex) (opens:Bool) (L:LU) (most f p:Nat) (acc:List Ex) (bad:Bool):Q4p bad p (Q5c sub opens L most (f+1) p acc)=(match Q4p bad p (Q2r sub opens L most p) with
 | .error e=>.error e
 | .ok (x,q)=>if Q07 L (Q05 L q)=42 then Q5c sub opens L most f (Q05 L q+1) (acc++[x]) else .ok (.prod (acc++[x]),Q05 L q)):=by
 cases bad
 ·show Q5c sub opens L most (f+1) p acc=_
  rw[Q5c];rfl
 ·rfl
theorem Qz5 {R:Nat} {w w':World} {g n c:Nat} {acc:List Ex} {vs:LV} (h:Q6m R w w' (some ⟨g,0,none⟩) n c acc vs) (h0:acc≠[]):Q2w (·<w.heap.size) w' (.prod acc) (.iface 181 (.agg #[.slice (some ⟨g,0,none⟩) n c])):=by
 have F7:∀k,k<w.heap.size->fpR w.heap.size (some ⟨g,0,none⟩) k∨w'.heap.size<=k:=fun k hk=>.inl (.inl (Xa1 hk));have hg:=Q1k h.row rfl;have hc:=h.row.cap;have R6:w.heap.size+1<=g:=hg.1;rw[Q2w];refine ⟨g,c,by rw[h.len],fun hk=>by omega,hg.2,by rw[h.len];exact hc.1,hc.2,h0,(h.nodes.more F7).row 0 fun j v hv=>?_⟩;obtain ⟨g',e,_,_,R0⟩:=h.row.at_ hv;injection e with e;injection e with e;subst e;rw[UH];exact R0
theorem Qdr {fp:Nat->Prop} {w w':World} (h:Q0e fp w.drew w'):Q0e fp w w':=⟨h.os,h.tape,h.output,h.size,h.block⟩
theorem Qwj {w:World} {R:Nat} {s:ByteArray} {p most:Nat} {d:Int} {bad:Bool} (sub:Nat->PR Ex) (h:Q0q w R s (p:Int) (most:Int) d bad) (hp:p<=s.size) (hs:s.size<=1000000) (E9:0<=d) (hd:d<=16) (hT:∀W,Q0e (OnR R) w W->Q1s W) (Vg:decide (d<16)=true->∀p,p<=s.data.toList.length->Q6d s.data.toList p (sub p))
 (o7:d<16->∀(W:World) (q:Nat),Q0q W R s (q:Int) (most:Int) (d+1) false->q<=s.size->(∀W',Q0e (OnR R) W W'->Q1s W')->Calls Tryz.prog 130 #[.pointer (some ⟨R,0,none⟩)] W (Q6w R s (most:Int) (d+1) (sub q) W)):
 Calls Tryz.prog 183 #[.pointer (some ⟨R,0,none⟩)] w (Q6w R s (most:Int) d (Q4p bad p (Q5c sub (decide (d<16)) s.data.toList most (s.size+1) p [])) w):=by
 obtain ⟨i0,E2,P1,G1,K1⟩:=Q0p Qjb;obtain ⟨L,hL⟩:∃L,s.data.toList=L:=⟨_,rfl⟩;have t8:L.length=s.size:=by rw[<-hL];rfl
 rw[hL];obtain ⟨X,hX⟩:∃X,Q4p bad p (Q5c sub (decide (d<16)) L most (s.size+1) p [])=X:=⟨_,rfl⟩;rw[hX];have hR:=h.lt;have O4:Bw w (w.alloc (.cells #[.slice none 0 0] 181)):=Ba;have P0:Q6m R w (w.alloc (.cells #[.slice none 0 0] 181)) none 0 0 [] []:=
  ⟨Q0e.of_below O4 _,by rw[Uv _ _ _ _ _ _ (Um _ _)];rfl,TC _ _ _ _ _ (Um _ _),Row.nil_ _ _ _ _,trivial,rfl⟩
 have H:=Xh7 hL t8 hs hX hR P0 (h.step O4);have HS:=Xh4 E9 hd hT o7;rw[hL] at Vg;have HP:=Xh2 hp Vg;clear h hp hs hT o7 Vg hL t8 E9 hd hX hR P0 O4
 go_enter Tryz.func183,Tryz.ntmps183
 go_wp2_with fail
 go_step3
 go_wp2_with fail
 go_step3
 go_wp2_with fail
 go_loopw [] (fun wr=>∃(f p':Nat) (bd:Bool) (a:OA) (n c:Nat) (acc:List Ex) (vs:LV),Q6m R w wr a n c acc vs/\Q0q wr R s (p':Int) (most:Int) d bd/\p'<=s.size/\s.size+1<=f+p'/\n<=p'/\X=Q4p bd p' (Q5c sub (decide (d<16)) L most f p' acc)) (fun wr=>s.size-atOf wr R)
 case atStart=>exact ⟨s.size+1,p,bad,none,0,0,[],[],(Xo5 H),(Xe6 H),(Xo0 HP),by omega,Ut _,(Xo3 H).symm⟩
 case round=>
  obtain ⟨f,p',bd,a,n,c,acc,vs,P0,hr,T8,hf,hn,E6⟩:=hrel;obtain ⟨f,rfl⟩:∃f',f=f'+1:=⟨f-1,by omega⟩;rw[Qq6] at E6;have Yl:=Qq5 sub hr.drew T8 (by have:=(Xo2 H);omega) (Xo0 HS) (Xo1 HS) (fun W hW=>(Xo2 HS) W (P0.turn.trans0 (Qdr hW))) (Xe3 HS);rw[(Xo0 H)] at Yl;obtain ⟨r0,u4⟩:∃r0,Q4p bd p' (Q2r sub (decide (d<16)) L most p')=r0:=⟨_,rfl⟩;rw[u4] at Yl E6;have hgo:∀x q0,r0=.ok (x,q0)->p'<q0:=fun x q0 e=>by
   rw[e] at u4;cases bd with
   |true=>cases u4
   |false=>
    have hm:=Qb7 (most:=most) (Xe1 HP) (p:=p') (by have:=(Xo1 H);omega);have I2:Q2r sub (decide (d<16)) L most p'=.ok (x,q0):=u4;rw[I2] at hm;exact hm.1
  have HG:=Ub hgo;have JZ:=P0.cell;have hkd:wr.drew.cell? ⟨w.heap.size,0,none⟩=some (.slice a n c):=JZ;have A2:s.size<=1000000:=(Xo2 H);have K5:n+1<=1000001:=by omega
  have HF:=Xh7 Yl P0 hr T8 hf hn E6;clear Yl P0 hr T8 hf E6 u4 hn A2 hgo
  go_upto_region 2 with fail
  go_cut [] (fun wx=>Qtq R s (most:Int) d w n acc vs r0 wx)
  case first=>
   go_region_law (first
    |(refine Q3h (by rfl) 238 #[.pointer (some ⟨R,0,none⟩)] (by simp[go_sem]) ?_;refine (Xo0 HF).mono ?_;rintro e w3 ⟨t,u,rfl,O9⟩;refine ⟨_,rfl,?_⟩;(have hN:Q6w R s (most:Int) d r0 wr (.returned (.iface t u)) w3:=⟨t,u,rfl,Qdr O9.1,O9.2⟩);(have p5:=(Xo1 HF).step (Xo4 H) (Qdr O9.1));(have q0:=p5.cell);(have qa:(w3.alloc (.cells #[.iface t u] 119)).cell? ⟨w.heap.size,0,none⟩=some (.slice a n c):=(UX _ _ _ p5.lt).trans q0);(have row3:=p5.row.alloc (.cells #[.iface t u] 119));(have B8:=p5.lt);(have hfz3:=p5.frz);(have H3:=Xh2 hN p5);clear hN O9 p5)
    |(refine step_append_lies _ (by rfl) _ _ _ (by rfl) (w.heap.size+1) 119 i0 _ 1 16 Tryz.underlying175 E2 P1 G1 K1 rfl (by omega) (.slice a n c) n vs (by rfl) row3 ⟨w3.heap.size,0,none⟩ 1 1 [.iface t u] (by rfl) (by rfl) (Tx (cs:= #[.iface t u]) (t:=119) (fr:=(0,0)) (Um w3 _)) (by simp[Value.oneCell']) (by omega) (by unfold maxLen;omega) (by omega) (by rw[Ui];omega) (w3.heap.size+1) (by simp) ?_;intro g cap w4 QD K3 Y1 hltg;(have Q0:some w.heap.size≠(Value.slice a n c).ownBlock:=by { intro e;cases a with|none=>simp[Value.ownBlock] at e|some y=>{ simp only[Value.ownBlock,Uj] at e;have:=Q1k row3 rfl;omega } });(have c4:=(K3.cell_far ⟨w.heap.size,0,none⟩ (by rw[Ui];exact Nat.lt_succ_of_lt B8) Q0).trans qa);(have f4:w4.frozen? ⟨w.heap.size,0,none⟩=false:=(Xak (K3.block _ (by rw[Ui];exact Nat.lt_succ_of_lt B8) Q0)).trans ((Xak (((Ug w3.heap.size w3).alloc (Ue _) _).block _ B8)).trans hfz3));(have YP:=Qwi (Xo4 H) (Xo1 HF) (Xo0 H3) rfl K3 QD Y1 f4 c4);(have H4:=Ub YP);clear YP K3 QD Y1))
   all_goals go_wp2_with fail
   all_goals go_meet
   all_goals exact H4.out
  case rest=>
   obtain ⟨g,cap,t,u,hk,KK,h2⟩:=hcut;have HK:=Xh2 KK h2;have hX:=(Xe6 HF);clear KK h2 hkd;cases r0 with
   |error e=>
    have h1:=(Xe1 HK);have D3:=Q3m h1.1 h1.2 (by have:=(Xo2 H);omega);simp only[skS,nxB,Xaz] at D3;have H2:=Xh3 D3 h1.2 hX;clear D3 h1 hX;have n42:((((0:UInt8).toNat:Nat):Int)==42)=false:=by decide
    go_wp2_with (go_at_call_of 131 (Value.pointer (some ⟨R,0,none⟩));refine (Xo0 H2).mono ?_;rintro r w2 ⟨rfl,X0,M1⟩;have k2:=(M1.cell (p:=⟨w.heap.size,0,none⟩) (UA hk) (fun (e:w.heap.size=R)=>by have:=(Xo4 H);omega)).trans hk;have H3:=Xh2 X0 M1;clear X0 M1)
    first|rw[Xab]|skip
    go_ret;rw[(Xe2 H2)];exact Q6w.err ((Xo0 HK).trans0 (Xe1 H3)) (Xo0 H3) (Xo1 H2)
   |ok z=>
    obtain ⟨x,q0⟩:=z;have h1:=(Xe1 HK);obtain ⟨q,hq⟩:∃q,Q05 L q0=q:=⟨_,rfl⟩;have JH:q<=s.size:=(by rw[<-hq,<-(Xo1 H)];exact Q3a (by have:=(Xo1 H);have:=h1.2.2;omega));obtain ⟨c,hc⟩:∃c,Q07 L q=c:=⟨_,rfl⟩;have E6:X=if c=42 then Q5c sub (decide (d<16)) L most f (q+1) (acc++[x]) else .ok (.prod (acc++[x]),q):=by
     rw[hX];simp only[hq,hc]
    have D3:=Q3m h1.2.1 h1.2.2 (by have:=(Xo2 H);omega);rw[(Xo0 H)] at D3;simp only[skS,nxB,Th,Xac,hq,hc] at D3;have m9:p'<q:=(by have:=HG.out x q0 rfl;have:=Q64 L q0;omega);have G4:IntKind.i64.wrap ((q:Int)+1)=(q:Int)+1:=by rw[UN];have:=(Xo2 H);omega
    by_cases h42:c=42
    ·subst h42;have o6:q+1<=s.size:=(by have:=Q0k hc (by decide);have:=(Xo1 H);omega);rw[Us rfl] at E6;have n42:((((42:UInt8).toNat:Nat):Int)==42)=true:=(by decide);have H2:=Xh5 D3 h1.1 E6 o6 m9;clear D3 h1 E6 hX o6 m9 hq hc JH
     go_wp2_with (go_at_call_of 131 (Value.pointer (some ⟨R,0,none⟩));refine (Xo0 H2).mono ?_;rintro r w2 ⟨rfl,X0,M1⟩;have k1:=X0.c1;have g1:=X0.f1;have H3:=Xh2 X0 M1;clear X0 M1)
     have Y9:Q0q (w2.setCell ⟨R,1,none⟩ (.int .i64 ((q:Int)+1))) R s ((q+1:Nat):Int) (most:Int) d false:=(Xo0 H3).setAt ((q:Int)+1);refine ⟨⟨f,q+1,false,_,n+1,cap,acc++[x],vs++[.iface t u],((Xo1 H2).step (Xo4 H) (Xe1 H3)).step (Xo4 H) (Q1x w2 R 1 (.int .i64 ((q:Int)+1))),Y9,(Xo3 H2),?_,?_,(Xo2 H2)⟩,?_⟩
     ·have:=(Xo4 HF);have:=(Xe4 H2);omega
     ·have:=(Xo5 HF);have:=(Xe4 H2);omega
     ·rw[Y9.atOf,(Xo2 HF).atOf];have:=(Xo3 H2);have:=(Xe4 H2);omega
    ·rw[Up h42] at E6;have n42:((c.toNat:Int)==42)=false:=Qdp (k:=42) (by decide) h42;have H2:=Xh4 D3 h1.1 E6 JH;clear D3 h1 E6 hX JH m9 hq hc h42
     go_wp2_with (go_at_call_of 131 (Value.pointer (some ⟨R,0,none⟩));refine (Xo0 H2).mono ?_;rintro r w2 ⟨rfl,X0,M1⟩;have k2:=(M1.cell (p:=⟨w.heap.size,0,none⟩) (UA hk) (fun (e:w.heap.size=R)=>by have:=(Xo4 H);omega)).trans hk;have H3:=Xh2 X0 M1;clear X0 M1)
     first|rw[Xab]|skip
     go_ret;rw[(Xo2 H2)];have p5:=(Xo1 H2).step (Xo4 H) (Xe1 H3);refine Q6w.okd ((Xo0 HK).trans0 (Xe1 H3)) ?_ (Xo0 H3) (Xe3 H2);exact Qz5 p5 (by simp)
def fpX (b:Nat) (a a2:OA) (k:Nat):Prop:=k<=b∨(∃x,a=some x/\x.block=k)∨∃x,a2=some x/\x.block=k
theorem Qjd {w:World} {B B':Nat} {T T':TypeId} {a a2:OA} {n c n2 c2:Nat} {vs us:LV} (h:Row w B T 1 a n c vs) (h2:Row w B' T' 1 a2 n2 c2 us) (hT:T≠T') {x y:Addr} (hx:a=some x) (hy:a2=some y) (e:x.block=y.block):False:=by
 rcases h.form with ⟨h0,_⟩|⟨g,cur,h0,_,_,hh,_⟩
 ·rw[h0] at hx;cases hx
 rcases h2.form with ⟨h0',_⟩|⟨g2,cur2,h0',_,_,hh2,_⟩
 ·rw[h0'] at hy;cases hy
 rw[h0] at hx;injection hx with hx;subst hx
 rw[h0'] at hy;injection hy with hy;subst hy
 have e:g=g2:=e;subst e;rw[hh] at hh2;injection hh2 with hh2;injection hh2 with _ e2;exact hT e2
theorem ff {x:Bool} {q:Prop} (h:x=false) (h2:x=true):q:=by rw[h] at h2;cases h2
theorem tf {q:Prop} (h:true=false):q:=by cases h
theorem tf2 {q:Prop} (h:false=true):q:=by cases h
theorem Qq7 {fp:Nat->Prop} {w w':World} (h:Q0e fp w w'):Q0e fp w w'.drew:=h.drew
structure EI (R:Nat) (s:ByteArray) (m d:Int) (w wr:World) (a:OA) (n c:Nat) (a2:OA) (c2:Nat) (below:Bool) (acc:List (Bool × Ex)) (vs:LV) (p:Nat) (bd:Bool) (r0:PR Ex) (N:Nat) (D:Nat->Bool) (V:Nat->Value) (W:World):Prop where
 st:R<w.heap.size/\w.heap.size<wr.heap.size/\(∀x,a=some x->w.heap.size+1<=x.block/\x.block<wr.heap.size)/\(∀x,a2=some x->w.heap.size+1<=x.block/\x.block<wr.heap.size)
 turn:Q0e (OnR R) w W
 big:wr.heap.size<=W.heap.size
 c0:D 12=false->W.cell? ⟨w.heap.size,0,none⟩=some (.slice a n c)
 c0':D 12=true->W.cell? ⟨w.heap.size,0,none⟩=some (V 5)
 c1:D 14=false->W.cell? ⟨w.heap.size,1,none⟩=some (.slice a2 n c2)
 c1':D 14=true->W.cell? ⟨w.heap.size,1,none⟩=some (V 10)
 f0:W.frozen? ⟨w.heap.size,0,none⟩=false
 f1:W.frozen? ⟨w.heap.size,1,none⟩=false
 rd:D 3=false->Q0q W R s (p:Int) m d bd
 nd:D 3=true->(wr.heap.size<=N/\N<=W.heap.size)/\∃t u,V 3=.iface t u/\match r0 with
  | .ok (x,q)=>Q2w (fun k=>k<wr.heap.size∨N<=k) W x (V 3)/\Q0q W R s (q:Int) m d false/\q<=s.size
  | .error q=>Q0q W R s (q:Int) m d true/\q<=s.size
 v0:D 0=true->V 0=.pointer (some ⟨w.heap.size,0,none⟩)
 v1:D 1=true->V 1=.slice a n c
 v2:D 2=true->V 2=.pointer (some ⟨R,0,none⟩)
 v4:D 4=true->∃h,V 4=.slice (some ⟨h,0,none⟩) 1 1/\wr.heap.size<=h/\W.heap[h]?=some (.cells #[V 3] 119 (0,0))
 v6:D 6=true->V 6=.pointer (some ⟨w.heap.size,1,none⟩)
 v7:D 7=true->V 7=.slice a2 n c2
 v8:D 8=true->V 8=.bool below
 v9:D 9=true->∃h,V 9=.slice (some ⟨h,0,none⟩) 1 1/\wr.heap.size<=h/\W.heap[h]?=some (.cells #[.bool below] 4 (0,0))
 v11:D 11=true->V 11=.pointer (some ⟨w.heap.size,0,none⟩)
 v13:D 13=true->V 13=.pointer (some ⟨w.heap.size,1,none⟩)
 ra:D 5=false->Row W (w.heap.size+1) 119 1 a n c vs
 ra':D 5=true->∃g cap,V 5=.slice (some ⟨g,0,none⟩) (n+1) cap/\Row W (w.heap.size+1) 119 1 (some ⟨g,0,none⟩) (n+1) cap (vs++[V 3])/\((∃x,a=some x/\x.block=g)∨N<=g)
 rb:D 10=false->Row W (w.heap.size+1) 4 1 a2 n c2 (acc.map fun z=>Value.bool z.1)
 rb':D 10=true->∃g cap,V 10=.slice (some ⟨g,0,none⟩) (n+1) cap/\Row W (w.heap.size+1) 4 1 (some ⟨g,0,none⟩) (n+1) cap (acc.map (fun z=>Value.bool z.1)++[.bool below])/\((∃x,a2=some x/\x.block=g)∨N<=g)
 nodes:Q1a (fun k=>fpX w.heap.size a a2 k∨wr.heap.size<=k) W (acc.map (·.2)) vs
section
variable {R:Nat} {s:ByteArray} {m d:Int} {w wr:World} {a:OA} {n c:Nat} {a2:OA} {c2:Nat} {below:Bool} {acc:List (Bool × Ex)} {vs:LV} {p:Nat} {bd:Bool} {r0:PR Ex} {N:Nat} {D:Nat->Bool} {V:Nat->Value} {W W':World}
theorem EI.s0 (h:EI R s m d w wr a n c a2 c2 below acc vs p bd r0 N D V W):EI R s m d w wr a n c a2 c2 below acc vs p bd r0 N (Q1z D 0) (Q27 V 0 (.pointer (some ⟨w.heap.size,0,none⟩))) W:=⟨h.st,h.turn,h.big,h.c0,h.c0',h.c1,h.c1',h.f0,h.f1,h.rd,h.nd,(fun _=>rfl),h.v1,h.v2,h.v4,h.v6,h.v7,h.v8,h.v9,h.v11,h.v13,h.ra,h.ra',h.rb,h.rb',h.nodes⟩
theorem EI.s1 (h:EI R s m d w wr a n c a2 c2 below acc vs p bd r0 N D V W):EI R s m d w wr a n c a2 c2 below acc vs p bd r0 N (Q1z D 1) (Q27 V 1 (.slice a n c)) W:=⟨h.st,h.turn,h.big,h.c0,h.c0',h.c1,h.c1',h.f0,h.f1,h.rd,h.nd,h.v0,(fun _=>rfl),h.v2,h.v4,h.v6,h.v7,h.v8,h.v9,h.v11,h.v13,h.ra,h.ra',h.rb,h.rb',h.nodes⟩
theorem EI.s2 (h:EI R s m d w wr a n c a2 c2 below acc vs p bd r0 N D V W):EI R s m d w wr a n c a2 c2 below acc vs p bd r0 N (Q1z D 2) (Q27 V 2 (.pointer (some ⟨R,0,none⟩))) W:=⟨h.st,h.turn,h.big,h.c0,h.c0',h.c1,h.c1',h.f0,h.f1,h.rd,h.nd,h.v0,h.v1,(fun _=>rfl),h.v4,h.v6,h.v7,h.v8,h.v9,h.v11,h.v13,h.ra,h.ra',h.rb,h.rb',h.nodes⟩
theorem EI.s6 (h:EI R s m d w wr a n c a2 c2 below acc vs p bd r0 N D V W):EI R s m d w wr a n c a2 c2 below acc vs p bd r0 N (Q1z D 6) (Q27 V 6 (.pointer (some ⟨w.heap.size,1,none⟩))) W:=⟨h.st,h.turn,h.big,h.c0,h.c0',h.c1,h.c1',h.f0,h.f1,h.rd,h.nd,h.v0,h.v1,h.v2,h.v4,(fun _=>rfl),h.v7,h.v8,h.v9,h.v11,h.v13,h.ra,h.ra',h.rb,h.rb',h.nodes⟩
theorem EI.s7 (h:EI R s m d w wr a n c a2 c2 below acc vs p bd r0 N D V W):EI R s m d w wr a n c a2 c2 below acc vs p bd r0 N (Q1z D 7) (Q27 V 7 (.slice a2 n c2)) W:=⟨h.st,h.turn,h.big,h.c0,h.c0',h.c1,h.c1',h.f0,h.f1,h.rd,h.nd,h.v0,h.v1,h.v2,h.v4,h.v6,(fun _=>rfl),h.v8,h.v9,h.v11,h.v13,h.ra,h.ra',h.rb,h.rb',h.nodes⟩
theorem EI.s8 (h:EI R s m d w wr a n c a2 c2 below acc vs p bd r0 N D V W):EI R s m d w wr a n c a2 c2 below acc vs p bd r0 N (Q1z D 8) (Q27 V 8 (.bool below)) W:=⟨h.st,h.turn,h.big,h.c0,h.c0',h.c1,h.c1',h.f0,h.f1,h.rd,h.nd,h.v0,h.v1,h.v2,h.v4,h.v6,h.v7,(fun _=>rfl),h.v9,h.v11,h.v13,h.ra,h.ra',h.rb,h.rb',h.nodes⟩
theorem EI.s11 (h:EI R s m d w wr a n c a2 c2 below acc vs p bd r0 N D V W):EI R s m d w wr a n c a2 c2 below acc vs p bd r0 N (Q1z D 11) (Q27 V 11 (.pointer (some ⟨w.heap.size,0,none⟩))) W:=⟨h.st,h.turn,h.big,h.c0,h.c0',h.c1,h.c1',h.f0,h.f1,h.rd,h.nd,h.v0,h.v1,h.v2,h.v4,h.v6,h.v7,h.v8,h.v9,(fun _=>rfl),h.v13,h.ra,h.ra',h.rb,h.rb',h.nodes⟩
theorem EI.s13 (h:EI R s m d w wr a n c a2 c2 below acc vs p bd r0 N D V W):EI R s m d w wr a n c a2 c2 below acc vs p bd r0 N (Q1z D 13) (Q27 V 13 (.pointer (some ⟨w.heap.size,1,none⟩))) W:=⟨h.st,h.turn,h.big,h.c0,h.c0',h.c1,h.c1',h.f0,h.f1,h.rd,h.nd,h.v0,h.v1,h.v2,h.v4,h.v6,h.v7,h.v8,h.v9,h.v11,(fun _=>rfl),h.ra,h.ra',h.rb,h.rb',h.nodes⟩
theorem EI.drop {k:Nat} (hk:k=12∨k=14) {v:Value} (h:EI R s m d w wr a n c a2 c2 below acc vs p bd r0 N D (Q27 V k v) W):EI R s m d w wr a n c a2 c2 below acc vs p bd r0 N D V W:=by
 rcases hk with rfl|rfl
 ·exact ⟨h.st,h.turn,h.big,h.c0,h.c0',h.c1,h.c1',h.f0,h.f1,h.rd,h.nd,h.v0,h.v1,h.v2,h.v4,h.v6,h.v7,h.v8,h.v9,h.v11,h.v13,h.ra,h.ra',h.rb,h.rb',h.nodes⟩
 ·exact ⟨h.st,h.turn,h.big,h.c0,h.c0',h.c1,h.c1',h.f0,h.f1,h.rd,h.nd,h.v0,h.v1,h.v2,h.v4,h.v6,h.v7,h.v8,h.v9,h.v11,h.v13,h.ra,h.ra',h.rb,h.rb',h.nodes⟩
theorem EI.s3 (h:EI R s m d w wr a n c a2 c2 below acc vs p bd r0 N D V W) (d4:D 4=false) (d5:D 5=false) (d10:D 10=false) (d12:D 12=false) (d14:D 14=false) {t:TypeId} {u:Value} (hN:Q6w R s m d r0 W (.returned (.iface t u)) W'):
 EI R s m d w wr a n c a2 c2 below acc vs p bd r0 W'.heap.size (Q1z D 3) (Q27 V 3 (.iface t u)) W':=by
 obtain ⟨hR,E0,ha,QF⟩:=h.st;obtain ⟨t',u',he,ht,h2⟩:=hN;injection he with he;injection he with e1 e2;subst e1;subst e2;have M7:w.heap.size<W.heap.size:=Uc E0 h.big;have hbR:¬OnR R w.heap.size:=fun (e:w.heap.size=R)=>by omega
 have e0:=ht.cell (p:=⟨w.heap.size,0,none⟩) M7 hbR;have e1:=ht.cell (p:=⟨w.heap.size,1,none⟩) M7 hbR;exact ⟨h.st,(h.turn.trans0 ht),(Un h.big ht.size),(fun hd=>e0.trans (h.c0 hd)),(fun hd=>ff d12 hd),(fun hd=>e1.trans (h.c1 hd)),(fun hd=>ff d14 hd),((ht.frozen (p:=⟨w.heap.size,0,none⟩) M7 hbR).trans h.f0),((ht.frozen (p:=⟨w.heap.size,1,none⟩) M7 hbR).trans h.f1),(fun hd=>tf hd),(fun _=>⟨⟨Un h.big ht.size,Ue _⟩,t,u,rfl,by
  cases r0 with
  |error q=>exact h2
  |ok z=>exact ⟨h2.1.more (fun k hk=>hk.imp (fun h1=>Uc h1 h.big) id),h2.2⟩⟩),h.v0,h.v1,h.v2,(fun hd=>ff d4 hd),h.v6,h.v7,h.v8,(fun hd=>by
  obtain ⟨b9,q1,q2,q3⟩:=h.v9 hd;exact ⟨b9,q1,q2,(ht.block b9 (Uq.1 q3).1 (fun (e:b9=R)=>by omega)).trans q3⟩),h.v11,h.v13,(fun hd=>(h.ra hd).turn ht (fun x hx (e:x.block=R)=>by have:=ha x hx;omega)),(fun hd=>ff d5 hd),(fun hd=>(h.rb hd).turn ht (fun x hx (e:x.block=R)=>by have:=QF x hx;omega)),(fun hd=>ff d10 hd),(h.nodes.turn ht (fun k (hk:k=R)=>.inl (.inl (by omega))))⟩
theorem EI.s4 (h:EI R s m d w wr a n c a2 c2 below acc vs p bd r0 N D V W):EI R s m d w wr a n c a2 c2 below acc vs p bd r0 N (Q1z D 4) (Q27 V 4 (.slice (some ⟨W.heap.size,0,none⟩) 1 1)) (W.alloc (.cells #[V 3] 119)):=by
 obtain ⟨hR,E0,ha,QF⟩:=h.st;have M7:w.heap.size<W.heap.size:=Uc E0 h.big;have hb:Bw W (W.alloc (.cells #[V 3] 119)):=Ba;have e0:=hb.cell (p:=⟨w.heap.size,0,none⟩) M7;have e1:=hb.cell (p:=⟨w.heap.size,1,none⟩) M7;exact ⟨h.st,(h.turn.trans0 (Q0e.of_below hb _)),(Un h.big hb.size),(fun hd=>e0.trans (h.c0 hd)),(fun hd=>e0.trans (h.c0' hd)),(fun hd=>e1.trans (h.c1 hd)),(fun hd=>e1.trans (h.c1' hd)),((hb.frozen (p:=⟨w.heap.size,0,none⟩) M7).trans h.f0),((hb.frozen (p:=⟨w.heap.size,1,none⟩) M7).trans h.f1),(fun hd=>(h.rd hd).step hb),(fun hd=>by
  obtain ⟨q0,t,u,q1,q2⟩:=h.nd hd;refine ⟨⟨q0.1,Un q0.2 hb.size⟩,t,u,q1,?_⟩;cases r0 with
  |error q=>exact ⟨q2.1.step hb,q2.2⟩
  |ok z=>exact ⟨q2.1.step hb,q2.2.1.step hb,q2.2.2⟩),h.v0,h.v1,h.v2,(fun _=>⟨W.heap.size,rfl,h.big,Um _ _⟩),h.v6,h.v7,h.v8,(fun hd=>by
  obtain ⟨b9,q1,q2,q3⟩:=h.v9 hd;exact ⟨b9,q1,q2,(hb.block b9 (Uq.1 q3).1).trans q3⟩),h.v11,h.v13,(fun hd=>(h.ra hd).call hb),(fun hd=>by
  obtain ⟨g,cap,q1,q2,q3⟩:=h.ra' hd;exact ⟨g,cap,q1,q2.call hb,q3⟩),(fun hd=>(h.rb hd).call hb),(fun hd=>by
  obtain ⟨g,cap,q1,q2,q3⟩:=h.rb' hd;exact ⟨g,cap,q1,q2.call hb,q3⟩),(h.nodes.turn (Q0e.of_below hb fun _=>False) (fun _ h=>h.elim))⟩
theorem EI.s9 (h:EI R s m d w wr a n c a2 c2 below acc vs p bd r0 N D V W):EI R s m d w wr a n c a2 c2 below acc vs p bd r0 N (Q1z D 9) (Q27 V 9 (.slice (some ⟨W.heap.size,0,none⟩) 1 1)) (W.alloc (.cells #[.bool below] 4)):=by
 obtain ⟨hR,E0,ha,QF⟩:=h.st;have M7:w.heap.size<W.heap.size:=Uc E0 h.big;have hb:Bw W (W.alloc (.cells #[.bool below] 4)):=Ba;have e0:=hb.cell (p:=⟨w.heap.size,0,none⟩) M7;have e1:=hb.cell (p:=⟨w.heap.size,1,none⟩) M7;exact ⟨h.st,(h.turn.trans0 (Q0e.of_below hb _)),(Un h.big hb.size),(fun hd=>e0.trans (h.c0 hd)),(fun hd=>e0.trans (h.c0' hd)),(fun hd=>e1.trans (h.c1 hd)),(fun hd=>e1.trans (h.c1' hd)),((hb.frozen (p:=⟨w.heap.size,0,none⟩) M7).trans h.f0),((hb.frozen (p:=⟨w.heap.size,1,none⟩) M7).trans h.f1),(fun hd=>(h.rd hd).step hb),(fun hd=>by
  obtain ⟨q0,t,u,q1,q2⟩:=h.nd hd;refine ⟨⟨q0.1,Un q0.2 hb.size⟩,t,u,q1,?_⟩;cases r0 with
  |error q=>exact ⟨q2.1.step hb,q2.2⟩
  |ok z=>exact ⟨q2.1.step hb,q2.2.1.step hb,q2.2.2⟩),h.v0,h.v1,h.v2,(fun hd=>by
  obtain ⟨b9,q1,q2,q3⟩:=h.v4 hd;exact ⟨b9,q1,q2,(hb.block b9 (Uq.1 q3).1).trans q3⟩),h.v6,h.v7,h.v8,(fun _=>⟨W.heap.size,rfl,h.big,Um _ _⟩),h.v11,h.v13,(fun hd=>(h.ra hd).call hb),(fun hd=>by
  obtain ⟨g,cap,q1,q2,q3⟩:=h.ra' hd;exact ⟨g,cap,q1,q2.call hb,q3⟩),(fun hd=>(h.rb hd).call hb),(fun hd=>by
  obtain ⟨g,cap,q1,q2,q3⟩:=h.rb' hd;exact ⟨g,cap,q1,q2.call hb,q3⟩),(h.nodes.turn (Q0e.of_below hb fun _=>False) (fun _ h=>h.elim))⟩
theorem EI.s5 (h:EI R s m d w wr a n c a2 c2 below acc vs p bd r0 N D V W) (d3:D 3=true) (d5:D 5=false) (d10:D 10=false) (d12:D 12=false) (d14:D 14=false) {g cap H:Nat} (I0:Row W' (w.heap.size+1) 119 1 (some ⟨g,0,none⟩) (n+1) cap (vs++[V 3])) (K6:W.grownBy W' (Value.slice a n c).ownBlock) (Y1:(Value.slice a n c).ownBlock=some g∨g=H) (hH:W.heap.size=H):
 EI R s m d w wr a n c a2 c2 below acc vs p bd r0 N (Q1z D 5) (Q27 V 5 (.slice (some ⟨g,0,none⟩) (n+1) cap)) W':=by
 obtain ⟨hR,E0,ha,QF⟩:=h.st;have M7:w.heap.size<W.heap.size:=Uc E0 h.big;have ht:Q0e (fun k=>∃x,a=some x/\x.block=k) W W':=Q0e.of_grown K6 fun r hr _=>by
  cases a with
  |none=>simp[Value.ownBlock] at hr
  |some x=>exact ⟨x,rfl,by simpa[Value.ownBlock] using hr⟩
 have i4:∀k,(∃x,a=some x/\x.block=k)->w.heap.size+1<=k/\k<wr.heap.size:=by
  rintro k ⟨x,hx,rfl⟩;exact ha x hx
 have nb:¬(∃x,a=some x/\x.block=w.heap.size):=fun e=>by have:=i4 _ e;omega
 have nR:¬(∃x,a=some x/\x.block=R):=fun e=>by have:=i4 _ e;omega
 have e0:=ht.cell (p:=⟨w.heap.size,0,none⟩) M7 nb;have e1:=ht.cell (p:=⟨w.heap.size,1,none⟩) M7 nb;exact ⟨h.st,(h.turn.trans ht (fun k hk e=>by have:=i4 _ e;omega)),(Un h.big ht.size),(fun hd=>e0.trans (h.c0 hd)),(fun hd=>ff d12 hd),(fun hd=>e1.trans (h.c1 hd)),(fun hd=>ff d14 hd),((ht.frozen (p:=⟨w.heap.size,0,none⟩) M7 nb).trans h.f0),((ht.frozen (p:=⟨w.heap.size,1,none⟩) M7 nb).trans h.f1),(fun hd=>ff hd d3),(fun hd=>by
  obtain ⟨q0,t,u,q1,q2⟩:=h.nd hd;refine ⟨⟨q0.1,Un q0.2 ht.size⟩,t,u,q1,?_⟩;cases r0 with
  |error q=>exact ⟨q2.1.keep ht nR,q2.2⟩
  |ok z=>exact ⟨q2.1.turn ht (fun k hk=>.inl (i4 k hk).2),q2.2.1.keep ht nR,q2.2.2⟩),h.v0,h.v1,h.v2,(fun hd=>by
  obtain ⟨b9,q1,q2,q3⟩:=h.v4 hd;exact ⟨b9,q1,q2,(ht.block b9 (Uq.1 q3).1 (fun e=>by have:=i4 _ e;omega)).trans q3⟩),h.v6,h.v7,h.v8,(fun hd=>by
  obtain ⟨b9,q1,q2,q3⟩:=h.v9 hd;exact ⟨b9,q1,q2,(ht.block b9 (Uq.1 q3).1 (fun e=>by have:=i4 _ e;omega)).trans q3⟩),h.v11,h.v13,(fun hd=>tf hd),(fun _=>⟨g,cap,rfl,I0,by
  rcases Y1 with h1|h1
  ·cases a with
   |none=>simp[Value.ownBlock] at h1
   |some x=>exact .inl ⟨x,rfl,by simpa[Value.ownBlock] using h1⟩
  ·exact .inr (by have:=(h.nd d3).1.2;omega)⟩),(fun hd=>(h.rb hd).turn ht (fun y hy e=>by obtain ⟨x,hx,e⟩:=e;exact Qjd (h.ra d5) (h.rb hd) (by decide) hx hy e)),(fun hd=>ff d10 hd),(h.nodes.turn ht (fun k hk=>.inl (.inr (.inl hk))))⟩
theorem EI.s10 (h:EI R s m d w wr a n c a2 c2 below acc vs p bd r0 N D V W) (d3:D 3=true) (d5:D 5=true) (d10:D 10=false) (d12:D 12=false) (d14:D 14=false) {g cap H:Nat} (I0:Row W' (w.heap.size+1) 4 1 (some ⟨g,0,none⟩) (n+1) cap (acc.map (fun z=>Value.bool z.1)++[.bool below])) (K6:W.grownBy W' (Value.slice a2 n c2).ownBlock) (Y1:(Value.slice a2 n c2).ownBlock=some g∨g=H) (hH:W.heap.size=H):
 EI R s m d w wr a n c a2 c2 below acc vs p bd r0 N (Q1z D 10) (Q27 V 10 (.slice (some ⟨g,0,none⟩) (n+1) cap)) W':=by
 obtain ⟨hR,E0,ha,QF⟩:=h.st;have M7:w.heap.size<W.heap.size:=Uc E0 h.big;have ht:Q0e (fun k=>∃x,a2=some x/\x.block=k) W W':=Q0e.of_grown K6 fun r hr _=>by
  cases a2 with
  |none=>simp[Value.ownBlock] at hr
  |some x=>exact ⟨x,rfl,by simpa[Value.ownBlock] using hr⟩
 have i4:∀k,(∃x,a2=some x/\x.block=k)->w.heap.size+1<=k/\k<wr.heap.size:=by
  rintro k ⟨x,hx,rfl⟩;exact QF x hx
 have nb:¬(∃x,a2=some x/\x.block=w.heap.size):=fun e=>by have:=i4 _ e;omega
 have nR:¬(∃x,a2=some x/\x.block=R):=fun e=>by have:=i4 _ e;omega
 have e0:=ht.cell (p:=⟨w.heap.size,0,none⟩) M7 nb;have e1:=ht.cell (p:=⟨w.heap.size,1,none⟩) M7 nb;exact ⟨h.st,(h.turn.trans ht (fun k hk e=>by have:=i4 _ e;omega)),(Un h.big ht.size),(fun hd=>e0.trans (h.c0 hd)),(fun hd=>ff d12 hd),(fun hd=>e1.trans (h.c1 hd)),(fun hd=>ff d14 hd),((ht.frozen (p:=⟨w.heap.size,0,none⟩) M7 nb).trans h.f0),((ht.frozen (p:=⟨w.heap.size,1,none⟩) M7 nb).trans h.f1),(fun hd=>ff hd d3),(fun hd=>by
  obtain ⟨q0,t,u,q1,q2⟩:=h.nd hd;refine ⟨⟨q0.1,Un q0.2 ht.size⟩,t,u,q1,?_⟩;cases r0 with
  |error q=>exact ⟨q2.1.keep ht nR,q2.2⟩
  |ok z=>exact ⟨q2.1.turn ht (fun k hk=>.inl (i4 k hk).2),q2.2.1.keep ht nR,q2.2.2⟩),h.v0,h.v1,h.v2,(fun hd=>by
  obtain ⟨b9,q1,q2,q3⟩:=h.v4 hd;exact ⟨b9,q1,q2,(ht.block b9 (Uq.1 q3).1 (fun e=>by have:=i4 _ e;omega)).trans q3⟩),h.v6,h.v7,h.v8,(fun hd=>by
  obtain ⟨b9,q1,q2,q3⟩:=h.v9 hd;exact ⟨b9,q1,q2,(ht.block b9 (Uq.1 q3).1 (fun e=>by have:=i4 _ e;omega)).trans q3⟩),h.v11,h.v13,(fun hd=>ff hd d5),(fun hd=>by
  obtain ⟨g1,cap1,q1,q2,q3⟩:=h.ra' hd;refine ⟨g1,cap1,q1,q2.turn ht (fun y hy e=>?_),q3⟩;obtain ⟨x,hx,e⟩:=e;exact Qjd q2 (h.rb d10) (by decide) hy hx e.symm),(fun hd=>tf hd),(fun _=>⟨g,cap,rfl,I0,by
  rcases Y1 with h1|h1
  ·cases a2 with
   |none=>simp[Value.ownBlock] at h1
   |some x=>exact .inl ⟨x,rfl,by simpa[Value.ownBlock] using h1⟩
  ·exact .inr (by have:=(h.nd d3).1.2;omega)⟩),(h.nodes.turn ht (fun k hk=>.inl (.inr (.inr hk))))⟩
theorem EI.s12 (h:EI R s m d w wr a n c a2 c2 below acc vs p bd r0 N D V W) (d3:D 3=true) (d5:D 5=true) (d10:D 10=true) (d12:D 12=false) (v:Value):
 EI R s m d w wr a n c a2 c2 below acc vs p bd r0 N (Q1z D 12) (Q27 V 12 v) (W.setCell ⟨w.heap.size,0,none⟩ (V 5)):=by
 obtain ⟨hR,E0,ha,QF⟩:=h.st;have M7:w.heap.size<W.heap.size:=Uc E0 h.big;have ht:Q0e (fun k=>k=w.heap.size) W (W.setCell ⟨w.heap.size,0,none⟩ (V 5)):=Q0e.setCell (fun k=>k=w.heap.size) W (p:=⟨w.heap.size,0,none⟩) rfl _;have nR:¬(R=w.heap.size):=by omega
 exact ⟨h.st,(h.turn.trans ht (fun k hk (e:k=w.heap.size)=>by omega)),(Un h.big ht.size),(fun hd=>tf hd),(fun _=>UE _ _ _ (by rw[h.c0 d12];rfl)),(fun hd=>(Ud _ _ _ _ (by simp)).trans (h.c1 hd)),(fun hd=>(Ud _ _ _ _ (by simp)).trans (h.c1' hd)),((Uo _ _ _ _).trans h.f0),((Uo _ _ _ _).trans h.f1),(fun hd=>ff hd d3),(fun hd=>by
  obtain ⟨q0,t,u,q1,q2⟩:=h.nd hd;refine ⟨⟨q0.1,Un q0.2 ht.size⟩,t,u,q1,?_⟩;cases r0 with
  |error q=>exact ⟨q2.1.keep ht nR,q2.2⟩
  |ok z=>exact ⟨q2.1.turn ht (fun k (hk:k=w.heap.size)=>.inl (by omega)),q2.2.1.keep ht nR,q2.2.2⟩),h.v0,h.v1,h.v2,(fun hd=>by
  obtain ⟨b9,q1,q2,q3⟩:=h.v4 hd;exact ⟨b9,q1,q2,(ht.block b9 (Uq.1 q3).1 (fun (e:b9=w.heap.size)=>by omega)).trans q3⟩),h.v6,h.v7,h.v8,(fun hd=>by
  obtain ⟨b9,q1,q2,q3⟩:=h.v9 hd;exact ⟨b9,q1,q2,(ht.block b9 (Uq.1 q3).1 (fun (e:b9=w.heap.size)=>by omega)).trans q3⟩),h.v11,h.v13,(fun hd=>ff hd d5),(fun hd=>by
  obtain ⟨g1,cap1,q1,q2,q3⟩:=h.ra' hd;exact ⟨g1,cap1,q1,q2.turn ht (fun y hy (e:y.block=w.heap.size)=>by have:=Q1k q2 hy;omega),q3⟩),(fun hd=>ff hd d10),(fun hd=>by
  obtain ⟨g1,cap1,q1,q2,q3⟩:=h.rb' hd;exact ⟨g1,cap1,q1,q2.turn ht (fun y hy (e:y.block=w.heap.size)=>by have:=Q1k q2 hy;omega),q3⟩),(h.nodes.turn ht (fun k (hk:k=w.heap.size)=>.inl (.inl (by omega))))⟩
theorem EI.s14 (h:EI R s m d w wr a n c a2 c2 below acc vs p bd r0 N D V W) (d3:D 3=true) (d5:D 5=true) (d10:D 10=true) (d14:D 14=false) (v:Value):
 EI R s m d w wr a n c a2 c2 below acc vs p bd r0 N (Q1z D 14) (Q27 V 14 v) (W.setCell ⟨w.heap.size,1,none⟩ (V 10)):=by
 obtain ⟨hR,E0,ha,QF⟩:=h.st;have M7:w.heap.size<W.heap.size:=Uc E0 h.big;have ht:Q0e (fun k=>k=w.heap.size) W (W.setCell ⟨w.heap.size,1,none⟩ (V 10)):=Q0e.setCell (fun k=>k=w.heap.size) W (p:=⟨w.heap.size,1,none⟩) rfl _;have nR:¬(R=w.heap.size):=by omega
 exact ⟨h.st,(h.turn.trans ht (fun k hk (e:k=w.heap.size)=>by omega)),(Un h.big ht.size),(fun hd=>(Ud _ _ _ _ (by simp)).trans (h.c0 hd)),(fun hd=>(Ud _ _ _ _ (by simp)).trans (h.c0' hd)),(fun hd=>tf hd),(fun _=>UE _ _ _ (by rw[h.c1 d14];rfl)),((Uo _ _ _ _).trans h.f0),((Uo _ _ _ _).trans h.f1),(fun hd=>ff hd d3),(fun hd=>by
  obtain ⟨q0,t,u,q1,q2⟩:=h.nd hd;refine ⟨⟨q0.1,Un q0.2 ht.size⟩,t,u,q1,?_⟩;cases r0 with
  |error q=>exact ⟨q2.1.keep ht nR,q2.2⟩
  |ok z=>exact ⟨q2.1.turn ht (fun k (hk:k=w.heap.size)=>.inl (by omega)),q2.2.1.keep ht nR,q2.2.2⟩),h.v0,h.v1,h.v2,(fun hd=>by
  obtain ⟨b9,q1,q2,q3⟩:=h.v4 hd;exact ⟨b9,q1,q2,(ht.block b9 (Uq.1 q3).1 (fun (e:b9=w.heap.size)=>by omega)).trans q3⟩),h.v6,h.v7,h.v8,(fun hd=>by
  obtain ⟨b9,q1,q2,q3⟩:=h.v9 hd;exact ⟨b9,q1,q2,(ht.block b9 (Uq.1 q3).1 (fun (e:b9=w.heap.size)=>by omega)).trans q3⟩),h.v11,h.v13,(fun hd=>ff hd d5),(fun hd=>by
  obtain ⟨g1,cap1,q1,q2,q3⟩:=h.ra' hd;exact ⟨g1,cap1,q1,q2.turn ht (fun y hy (e:y.block=w.heap.size)=>by have:=Q1k q2 hy;omega),q3⟩),(fun hd=>ff hd d10),(fun hd=>by
  obtain ⟨g1,cap1,q1,q2,q3⟩:=h.rb' hd;exact ⟨g1,cap1,q1,q2.turn ht (fun y hy (e:y.block=w.heap.size)=>by have:=Q1k q2 hy;omega),q3⟩),(h.nodes.turn ht (fun k (hk:k=w.heap.size)=>.inl (.inl (by omega))))⟩
structure Qbs (R:Nat) (w wr:World) (a:OA) (n c:Nat) (a2:OA) (c2:Nat) (acc:List (Bool × Ex)) (vs:LV):Prop where
 turn:Q0e (OnR R) w wr
 c0:wr.cell? ⟨w.heap.size,0,none⟩=some (.slice a n c)
 c1:wr.cell? ⟨w.heap.size,1,none⟩=some (.slice a2 n c2)
 f0:wr.frozen? ⟨w.heap.size,0,none⟩=false
 f1:wr.frozen? ⟨w.heap.size,1,none⟩=false
 ra:Row wr (w.heap.size+1) 119 1 a n c vs
 rb:Row wr (w.heap.size+1) 4 1 a2 n c2 (acc.map fun z=>Value.bool z.1)
 nodes:Q1a (fpX w.heap.size a a2) wr (acc.map (·.2)) vs
 len:acc.length=n
theorem Qbs.lt (h:Qbs R w wr a n c a2 c2 acc vs):w.heap.size<wr.heap.size:=UA h.c0
theorem Qbs.step (h:Qbs R w wr a n c a2 c2 acc vs) (hR:R<w.heap.size) (ht:Q0e (OnR R) wr W'):Qbs R w W' a n c a2 c2 acc vs:=
 ⟨h.turn.trans0 ht,(ht.cell (p:=⟨w.heap.size,0,none⟩) h.lt (fun (e:w.heap.size=R)=>by omega)).trans h.c0,(ht.cell (p:=⟨w.heap.size,1,none⟩) h.lt (fun (e:w.heap.size=R)=>by omega)).trans h.c1,
   (ht.frozen (p:=⟨w.heap.size,0,none⟩) h.lt (fun (e:w.heap.size=R)=>by omega)).trans h.f0,(ht.frozen (p:=⟨w.heap.size,1,none⟩) h.lt (fun (e:w.heap.size=R)=>by omega)).trans h.f1,
   h.ra.turn ht (fun x hx (e:x.block=R)=>by have:=Q1k h.ra hx;omega),h.rb.turn ht (fun x hx (e:x.block=R)=>by have:=Q1k h.rb hx;omega),h.nodes.turn ht (fun k (hk:k=R)=>.inl (by omega)),h.len⟩
theorem Qbs.start (h:Qbs R w wr a n c a2 c2 acc vs) (hR:R<w.heap.size) (hr:Q0q wr R s (p:Int) m d bd) (V:Nat->Value):EI R s m d w wr a n c a2 c2 below acc vs p bd r0 0 (fun _=>false) V wr.drew:=
 ⟨⟨hR,h.lt,fun _ hx=>Q1k h.ra hx,fun _ hx=>Q1k h.rb hx⟩,h.turn.drew,Ue _,fun _=>h.c0,tf2,fun _=>h.c1,tf2,h.f0,h.f1,fun _=>hr.drew,tf2,tf2,tf2,tf2,tf2,tf2,tf2,tf2,tf2,tf2,tf2,fun _=>h.ra.drew,tf2,fun _=>h.rb.drew,tf2,
   (h.nodes.more (fp':=fun k=>fpX w.heap.size a a2 k∨wr.heap.size<=k) (fun _ hk=>hk)).turn (Qq7 (Q0e.refl (fun _=>False) wr)) (fun _ h=>h.elim)⟩
def Qxu (R:Nat) (s:ByteArray) (m d:Int) (w:World) (n:Nat) (below:Bool) (acc:List (Bool × Ex)) (vs:LV) (r0:PR Ex) (wx:World):Prop:=
 ∃g cap g2 cap2 v,wx.cell? ⟨w.heap.size,0,none⟩=some (.slice (some ⟨g,0,none⟩) (n+1) cap)/\wx.cell? ⟨w.heap.size,1,none⟩=some (.slice (some ⟨g2,0,none⟩) (n+1) cap2)/\Q0e (OnR R) w wx/\match r0 with
  | .ok (x,q)=>Qbs R w wx (some ⟨g,0,none⟩) (n+1) cap (some ⟨g2,0,none⟩) cap2 (acc++[(below,x)]) (vs++[v])/\Q0q wx R s (q:Int) m d false/\q<=s.size
  | .error q=>Q0q wx R s (q:Int) m d true/\q<=s.size
theorem EI.fin (h:EI R s m d w wr a n c a2 c2 below acc vs p bd r0 N D V W) (hl:acc.length=n) (hD:∀j,j<15->D j=true):Qxu R s m d w n below acc vs r0 W:=by
 obtain ⟨hR,E0,ha,QF⟩:=h.st;obtain ⟨g,cap,e5,I0,hg⟩:=h.ra' (hD 5 (by decide));obtain ⟨g2,cap2,e10,Qy,J5⟩:=h.rb' (hD 10 (by decide));have c0:=h.c0' (hD 12 (by decide));have c1:=h.c1' (hD 14 (by decide));rw[e5] at c0;rw[e10] at c1;obtain ⟨hN,t,u,e3,hr⟩:=h.nd (hD 3 (by decide));refine ⟨g,cap,g2,cap2,V 3,c0,c1,h.turn,?_⟩;cases r0 with
 |error q=>exact hr
 |ok z=>
  obtain ⟨x,q⟩:=z;have hlowN:∀k,fpX w.heap.size (some ⟨g,0,none⟩) (some ⟨g2,0,none⟩) k->(k<wr.heap.size∨N<=k):=by
   rintro k (hk|⟨y,hy,hk⟩|⟨y,hy,hk⟩)
   ·exact .inl (by omega)
   ·injection hy with hy;subst hy;rcases hg with ⟨x',QQ,e⟩|e
    ·exact .inl (by have:=ha x' QQ;have hk:g=k:=hk;omega)
    ·exact .inr (by have hk:g=k:=hk;omega)
   ·injection hy with hy;subst hy;rcases J5 with ⟨x',QQ,e⟩|e
    ·exact .inl (by have:=QF x' QQ;have hk:g2=k:=hk;omega)
    ·exact .inr (by have hk:g2=k:=hk;omega)
  have hold:∀k,fpX w.heap.size (some ⟨g,0,none⟩) (some ⟨g2,0,none⟩) k->(fpX w.heap.size a a2 k∨wr.heap.size<=k):=by
   rintro k (hk|⟨y,hy,hk⟩|⟨y,hy,hk⟩)
   ·exact .inl (.inl hk)
   ·injection hy with hy;subst hy;have hk:g=k:=hk;subst hk;rcases hg with ⟨x',QQ,e⟩|e
    ·exact .inl (.inr (.inl ⟨x',QQ,e⟩))
    ·exact .inr (by omega)
   ·injection hy with hy;subst hy;have hk:g2=k:=hk;subst hk;rcases J5 with ⟨x',QQ,e⟩|e
    ·exact .inl (.inr (.inr ⟨x',QQ,e⟩))
    ·exact .inr (by omega)
  refine ⟨⟨h.turn,c0,c1,h.f0,h.f1,I0,?_,?_,by rw[Uh,hl];rfl⟩,hr.2⟩
  ·rw[UR];exact Qy
  ·rw[UR];exact (h.nodes.more fun k hk=>.inl (hold k hk)).snoc (hr.1.more fun k hk=>.inl (hlowN k hk))
end
section
variable {P:Program} {ops:Array Oper}
theorem Q0i {a:Act} {j:Nat} {t:Tmp} {v:Value} (hj:(ops[j]?).bind (·.dst)=some t) (hv:Q09 ops a j=v):a.tmps[t]?.getD undef=v:=by
 unfold Q09 at hv;rw[hj] at hv;have hv:a.tmps.getD t undef=v:=hv;rwa[UB] at hv
theorem Q93 {a:Act} {j:Nat} {t:Tmp} {v:Value} (hj:(ops[j]?).bind (·.dst)=some t) (hv:Q09 ops a j=v):a.eval (.tmp t)=v:=by
 unfold Q09 at hv;rw[hj] at hv;exact hv
theorem Q16 {K:Value->World->Prop} {o:Oper} {a:Act} {w w':World} {u:Value} (hg:o.guard=none) (hr:(execOp a.eval o).run P w=.ok (.value u) w') (h:K u w'):Region.wanted o (yielded ops a.tmps)=true/\Q0n P K ((execOp a.eval o).run P w):=
 ⟨by unfold Region.wanted;rw[hg],by rw[hr];exact h⟩
theorem Qax {K:Value->World->Prop} {o:Oper} {a:Act} {w w':World} (hg:o.guard=none) (hr:(execOp a.eval o).run P w=.ok .skip w') (h:K undef w'):Region.wanted o (yielded ops a.tmps)=true/\Q0n P K ((execOp a.eval o).run P w):=
 ⟨by unfold Region.wanted;rw[hg],by rw[hr];exact h⟩
theorem Qq8 {K:Value->World->Prop} {o:Oper} {a:Act} {w:World} {f:FuncId} {args:Array Value} (hg:o.guard=none) (hr:(execOp a.eval o).run P w=.ok (.enter f args) w) (h:Calls P f args w fun e w'=>∃v,e=.returned v/\K v w'):Region.wanted o (yielded ops a.tmps)=true/\Q0n P K ((execOp a.eval o).run P w):=
 ⟨by unfold Region.wanted;rw[hg],by rw[hr];exact h⟩
theorem Qbd {K:Value->World->Prop} {o:Oper} {a:Act} {w:World} (hg:o.guard=none) (s x:Operand) (t:TypeId)
 (ho:o.op=.call { callee:=.builtin .append,args:= #[s,x],argTypes:= #[t,t] })
 (base:Nat) (e:TypeId) (i:TypeInfo) (z:Value) (bytes:Nat) (ht:P.underlying t=some (.slice e)) (hi:P.info? e=some i) (hz:i.zero=some z)
 (L8:i.size=1) (XD:i.bytes=bytes) (Xu:z.cells.size=1) (v:Value) (n:Nat) (xs:LV) (hs:a.eval s=v) (J4:w.ownsRow base e 1 v n xs)
 (b:Nat) (u:Value) (hx:a.eval x=.slice (some ⟨b,0,none⟩) 1 1) (hb:w.heap[b]?=some (.cells #[u] e (0,0))) (h1:u.oneCell'=true)
 (h63:n+1<=maxLen) (QH:(n+1)*bytes<=140737488355328) (XN:base<=w.heap.size)
 (h:∀g cap w',w'.ownsRow base e 1 (.slice (some ⟨g,0,none⟩) (n+1) cap) (n+1) (xs++[u])->w.grownBy w' v.ownBlock->(v.ownBlock=some g∨g=w.heap.size)->K (.slice (some ⟨g,0,none⟩) (n+1) cap) w'):Region.wanted o (yielded ops a.tmps)=true/\Q0n P K ((execOp a.eval o).run P w):=by
 obtain ⟨g,cap,w',hr,h2,h3,h4,_⟩:=run_append_lies (P:=P) w t o.type base e i z 1 bytes ht hi hz L8 XD Xu (by decide) v n xs J4 ⟨b,0,none⟩ 1 1 [u] rfl (Tx (cs:= #[u]) hb) (by simpa using h1) (by decide) h63 QH XN _ rfl;refine Q16 (u:=.slice (some ⟨g,0,none⟩) (n+1) cap) (w':=w') hg ?_ (h g cap w' h2 h3 h4);unfold execOp;simp only[ho,resolve,invoke,builtin,Sem.run_bind,Sem.run_pure,Result.andThen_ok,List.map_toArray,Xah,List.map_nil,hs,hx,hr]
end
end Go.Proofs.YtidojbkhlenahaaGreatDoor
namespace Go.Proofs.YtidojbkhlenahaaGreatDoor
open Go.RowKit WordsM
def Q3p (all:List Q01) (q:P4):Option Nat:=(all.map fun m=>p4 m.es).findIdx? fun r=>decide (r=q)
theorem Qje:∀{T:List Q0b} {c q:Q0b} {j:Nat},T.findIdx? (fun p=>decide (p.2=c.2))=some j->T[j]?=some q->Q63 T c=T.set j (q.1+c.1,q.2)
 |[],c,q,j,h,_=>by simp at h
 |p::r,c,q,j,h,hq=>by
  rw[Q63];rw[Xbh] at h
  by_cases hp:p.2=c.2
  ·rw[Us hp];simp only[hp,decide_true,Xaz,Uj] at h;subst h;simp only[UD,Uj] at hq;subst hq;rfl
  ·rw[Up hp];simp only[hp,decide_false,Th,Xac,Option.map_eq_some_iff] at h;obtain ⟨j',h1,rfl⟩:=h;rw[Qje h1 (by simpa using hq)];rfl
theorem Qo6:∀{T:List Q0b} {c:Q0b},T.findIdx? (fun p=>decide (p.2=c.2))=none->Q63 T c=T++[c]
 |[],c,_=>rfl
 |p::r,c,h=>by
  rw[Q63];rw[Xbh] at h
  by_cases hp:p.2=c.2
  ·simp[hp] at h
  ·rw[Up hp];simp only[hp,decide_false,Th,Xac,Option.map_eq_none_iff] at h;rw[Qo6 h];rfl
theorem Qay {k:Nat} (hk:k<=4):∀{all:List Q01} {E:List Int},(∀m∈all,m.es.length=k)->E.length=k->Q3p all (p4 E)=(all.map Q01.term).findIdx? fun p=>decide (p.2=E)
 |[],E,_,_=>rfl
 |m::r,E,h,hE=>by
  have ih:=Qay hk (all:=r) (fun m hm=>h m (TH _ hm)) hE;unfold Q3p at ih⊢;rw[Xah,Xah,Xbh,Xbh,ih];have e:decide (p4 m.es=p4 E)=decide (m.term.2=E):=by
   apply Bool.eq_iff_iff.2
   rw[Xag,Xag];exact ⟨fun e=>Qxs (h m (by simp)) hE hk e,fun e=>by have e:m.es=E:=e;rw[e]⟩
  rw[e]
theorem Qtr {all:List Q01} {j:Nat} {m m':Q01} (hm:all[j]?=some m) (he:m'.es=m.es):Q3p (all.set j m')=Q3p all:=by
 funext q
 unfold Q3p
 congr 1
 rw[List.map_set,he];refine Xa9 fun i=>?_
 by_cases hi:j=i
 ·subst hi;rw[TG (by rw[UK];exact (Ul.1 hm).1),UP,hm];rfl
 ·rw[Te hi]
theorem Qq9 {all:List Q01} {m:Q01} {N:Nat} (hN:all.length=N) (h:Q3p all (p4 m.es)=none):Q3p (all++[m])=fun r=>if r=p4 m.es then some N else Q3p all r:=by
 funext q
 unfold Q3p at h⊢;rw[UR,List.findIdx?_append]
 by_cases hq:q=p4 m.es
 ·subst hq;rw[h,Us rfl];simp[Xbh,hN]
 ·rw[Up hq];have:List.findIdx? (fun r=>decide (r=q)) ([m].map fun m=>p4 m.es)=none:=by
   simp[Xbh];exact fun e=>hq e.symm
  rw[this];cases List.findIdx? (fun r=>decide (r=q)) (all.map fun m=>p4 m.es) <;> rfl
theorem Qwk {all:List Q01} {q:P4} {j:Nat} (h:Q3p all q=some j):∃m,all[j]?=some m/\p4 m.es=q:=by
 unfold Q3p at h;obtain ⟨hj,h1,_⟩:=List.findIdx?_eq_some_iff_getElem.1 h;rw[UK] at hj;refine ⟨all[j],Ua hj,?_⟩;simpa using h1
theorem Qwl {all:List Q01} {j:Nat} {m':Q01}:(all.set j m').map Q01.term=(all.map Q01.term).set j m'.term:=by rw[List.map_set]
def Qz6 (k:Nat) (T:Int) (m:Q01):Prop:=Q0x k m.es/\-65536<=m.exp/\m.exp<=65536/\64*(m.ws.length:Int)+m.exp<=T
def Qts (w:World) (ms:List Q01) (k mb:Nat) (s7 s31:Value) (wr:World):Prop:=
 ∃(i:Nat) (a:OA) (N c:Nat) (all:List Q01),s7=.slice a N c/\s31=.int .i64 (i:Int)/\i<=ms.length/\N<=i/\Q1r w.heap.size wr a N c all/\all.map Q01.term=Qb6 ((ms.take i).map Q01.term)/\
  (∀m∈all,Qz6 k (69632+64*(i:Int)) m)/\Q53 wr mb N (Q3p all)/\Bw w wr
def Qz7 (w:World) (ms:List Q01) (k mb i p9:Nat) (v0 v1:Value) (aw:OA) (lw cw:Nat) (v3:Value) (m:Q01) (s7 s10:Value) (wx:World):Prop:=
 ∃(a:OA) (N c:Nat) (all:List Q01) (j:Nat) (mj:Q01),s7=.slice a N c/\s10=.int .i64 (j:Int)/\N<=i+1/\Q1r w.heap.size wx a N c all/\all[j]?=some mj/\mj.es=m.es/\
  (∀b e L,Q1p b e L=Q1p mj.neg mj.exp mj.ws+Q1p m.neg m.exp m.ws->(all.set j ⟨b,e,L,mj.es⟩).map Q01.term=Qb6 ((ms.take (i+1)).map Q01.term))/\
  (∀m∈all,Qz6 k (69632+64*(i:Int)) m)/\Q53 wx mb N (Q3p all)/\Bw w wx/\Q34 wx p9 v0 v1 (.slice aw lw cw) v3/\p9<wx.heap.size/\WordsIn wx aw lw cw m.ws
theorem Q53.cells {w:World} {b n:Nat} {g:P4->Option Nat} (h:Q53 w b n g) (o:Nat):w.cell? ⟨b,o,none⟩=none:=by
 obtain ⟨D,⟨es,clock,hb,_⟩,_⟩:=h;unfold World.cell?;rw[hb]
theorem Q53.ne {w:World} {b n B N c:Nat} {g:P4->Option Nat} (h:Q53 w b n g) {a:OA} {all:List Q01} (hs:Q1r B w a N c all) {x:Addr} (hx:a=some x):x.block≠b:=by
 intro e;obtain ⟨xs,hr⟩:=hs.row;obtain ⟨D,⟨es,clock,hb,_⟩,_⟩:=h;rcases hr.1.form with ⟨h0,_⟩|⟨g',cur,h0,_,_,hh,_⟩
 ·rw[h0] at hx;cases hx
 ·rw[h0] at hx;injection hx with hx;subst hx
  have e:g'=b:=e;subst e;rw[hh] at hb;cases hb
theorem Q53.below {w w':World} {b n:Nat} {g:P4->Option Nat} (h:Q53 w b n g) (hb:Bw w w'):Q53 w' b n g:=h.keep (hb.block _ h.lt)
end Go.Proofs.YtidojbkhlenahaaGreatDoor
namespace Go.Proofs
open Go.Shelf
def Tryz.J4e:Go.Shelf.Ren:=⟨fun|6=>189|15=>243|14=>242|28=>283|29=>202|20=>275|21=>276|22=>277|23=>278|24=>279|25=>280|26=>281|27=>282|46=>299|47=>300|48=>301|49=>302|50=>303|57=>311|n=>n,fun|22=>42|24=>98|25=>134|3=>3|39=>149|0=>0|53=>150|55=>83|4=>4|46=>293|45=>292|50=>76|5=>5|9=>9|66=>311|70=>160|76=>325|77=>326|n=>n,fun|n=>n⟩
theorem Tryz.J4f:Go.Proofs.SlLaysF0.n6 Tryz.prog Tryz.J4e:=by
 constructor
 case f6=>exact ⟨Tryz.f189.name,by decide,Tryz.func189.trans (congrArg some (by kernel_rfl))⟩
 case f14=>exact ⟨Tryz.f242.name,by decide,Tryz.func242.trans (congrArg some (by kernel_rfl))⟩
 case f20=>exact ⟨Tryz.f275.name,by decide,Tryz.func275.trans (congrArg some (by kernel_rfl))⟩
 case f21=>exact ⟨Tryz.f276.name,by decide,Tryz.func276.trans (congrArg some (by kernel_rfl))⟩
 case f22=>exact ⟨Tryz.f277.name,by decide,Tryz.func277.trans (congrArg some (by kernel_rfl))⟩
 case f23=>exact ⟨Tryz.f278.name,by decide,Tryz.func278.trans (congrArg some (by kernel_rfl))⟩
 case f24=>exact ⟨Tryz.f279.name,by decide,Tryz.func279.trans (congrArg some (by kernel_rfl))⟩
 case f25=>exact ⟨Tryz.f280.name,by decide,Tryz.func280.trans (congrArg some (by kernel_rfl))⟩
 case f26=>exact ⟨Tryz.f281.name,by decide,Tryz.func281.trans (congrArg some (by kernel_rfl))⟩
 case f27=>exact ⟨Tryz.f282.name,by decide,Tryz.func282.trans (congrArg some (by kernel_rfl))⟩
 case f46=>exact ⟨Tryz.f299.name,by decide,Tryz.func299.trans (congrArg some (by kernel_rfl))⟩
 case f49=>exact ⟨Tryz.f302.name,by decide,Tryz.func302.trans (congrArg some (by kernel_rfl))⟩
 case f50=>exact ⟨Tryz.f303.name,by decide,Tryz.func303.trans (congrArg some (by kernel_rfl))⟩
 case f57=>exact ⟨Tryz.f311.name,by decide,Tryz.func311.trans (congrArg some (by kernel_rfl))⟩
 all_goals first|kernel_rfl|(intros;kernel_rfl)|decide
end Go.Proofs
namespace Go.Proofs.YtidojbkhlenahaaGreatDoor
open Go.RowKit WordsM Go.Sort
structure SM (w:World) (blk:Nat) where
 m:Q01
 aw:OA
 lw:Nat
 cw:Nat
 be:Nat
 oe:Nat
 le:Nat
 ce:Nat
 hi:Q0g w (some ⟨be,oe,none⟩) le ce m.es
 ne:be≠blk
 lt:be<w.heap.size
 hw:WordsIn w aw lw cw m.ws
def Qo7 {w:World} {blk:Nat} (x:SM w blk):LV:=[.bool x.m.neg,.int .i64 x.m.exp,.slice x.aw x.lw x.cw,.slice (some ⟨x.be,x.oe,none⟩) x.le x.ce]
def cfM {w:World} {blk:Nat} (x y:SM w blk):Int:=Q3j y.m.es x.m.es
theorem Qwm {w:World} {blk:Nat} (x:SM w blk):(Qo7 x).length=4:=rfl
theorem Qwn {w:World} {blk:Nat} (x:SM w blk):∀v∈Qo7 x,v.oneCell'=true:=by
 intro v hv;simp[Qo7] at hv;rcases hv with rfl|rfl|rfl|rfl <;> rfl
section
variable {α:Type} [Inhabited α]
theorem Qfw (enc:α->LV) (k:Nat) (w:World) (blk off n:Nat) (dk:Array α) (os:Array Obj) {p:Addr} (hp:p.block<w.heap.size) (Q0:p.block≠blk):(sortWorldK enc k w blk off n dk os).cell? p=w.cell? p:=by
 unfold sortWorldK;have A2:(putRowK enc k (Sort.ahead w n) blk off dk).heap.size=w.heap.size:=by unfold putRowK;rw[size_putRow];rfl
 rw[cell?_grow _ _ _ (by rw[A2];exact hp),cell?_putRowK_other _ _ _ _ _ _ _ Q0];rfl
theorem Qfx (enc:α->LV) (k:Nat) (w:World) (blk off n:Nat) (dk:Array α) (os:Array Obj) {i:Nat} (hp:i<w.heap.size) (Q0:i≠blk):(sortWorldK enc k w blk off n dk os).heap[i]?=w.heap[i]?:=by
 unfold sortWorldK;have A2:(putRowK enc k (Sort.ahead w n) blk off dk).heap.size=w.heap.size:=by unfold putRowK;rw[size_putRow];rfl
 rw[heap_grow_old _ _ (by rw[A2];exact hp)];unfold putRowK putRow mapBlock
 show ((Sort.ahead w n).heap.modify blk _)[i]?=_
 rw[Array.getElem?_modify,Up (fun e=>Q0 e.symm)];rfl
theorem Qaz (enc:α->LV) (k:Nat) (w:World) (blk off n:Nat) (dk:Array α) (os:Array Obj):w.heap.size<=(sortWorldK enc k w blk off n dk os).heap.size:=by
 unfold sortWorldK;rw[size_grow];have A2:(putRowK enc k (Sort.ahead w n) blk off dk).heap.size=w.heap.size:=by unfold putRowK;rw[size_putRow];rfl
 omega
end
theorem SM.ints {w w':World} {blk:Nat} (x:SM w blk) (hs:w.heap.size<=w'.heap.size) (hc:∀p:Addr,p.block<w.heap.size->p.block≠blk->w'.cell? p=w.cell? p):Q0g w' (some ⟨x.be,x.oe,none⟩) x.le x.ce x.m.es:=by
 refine ⟨x.hi.len,x.hi.cap,x.hi.most,x.hi.rng,?_⟩;rcases x.hi.rd with h0|⟨b,o,e,hb,X3⟩
 ·exact .inl h0
 ·refine .inr ⟨b,o,e,Uc hb hs,fun j y hy=>?_⟩;injection e with e;injection e with e1 e2;exact (hc ⟨b,o+j,none⟩ hb (by rw[<-e1];exact x.ne)).trans (X3 j y hy)
theorem Qds (u0 u1 u2:Value) (a:OA) (n c:Nat) (E:List Int) (v0 v1 v2:Value) (b:OA) (m d:Nat) (F:List Int) (w:World) (h1:Q0g w a n c E) (h2:Q0g w b m d F):
 Calls Tryz.prog 93 #[.agg #[u0,u1,u2,.slice a n c],.agg #[v0,v1,v2,.slice b m d]] w fun r w'=>r=.returned (.int .i64 (Q3j F E))/\w'=(w.alloc (.cells #[u0,u1,u2,.slice a n c] 98)).alloc (.cells #[v0,v1,v2,.slice b m d] 98):=by
 have C0:Bw w (w.alloc (.cells #[u0,u1,u2,.slice a n c] 98)):=Ba;have A3:(w.alloc (.cells #[u0,u1,u2,.slice a n c] 98)).heap.size=w.heap.size+1:=Ui _ _;have D0:Below (w.alloc (.cells #[u0,u1,u2,.slice a n c] 98)).heap.size (w.alloc (.cells #[u0,u1,u2,.slice a n c] 98)) ((w.alloc (.cells #[u0,u1,u2,.slice a n c] 98)).alloc (.cells #[v0,v1,v2,.slice b m d] 98)):=Ba;have hX:=(Q34.new w u0 u1 u2 (.slice a n c) 98).step D0 (Q0h _ _);have hY:=Q34.new (w.alloc (.cells #[u0,u1,u2,.slice a n c] 98)) v0 v1 v2 (.slice b m d) 98;rw[A3] at hY;have hB:=Below.next0 C0 D0;generalize hW:(w.alloc (.cells #[u0,u1,u2,.slice a n c] 98)).alloc (.cells #[v0,v1,v2,.slice b m d] 98)=W at hX hY hB;have KC:=hX.c3;have hy3:=hY.c3;have J3:=Qdf b m d F a n c E W (h2.step hB) (h1.step hB);have HC:=Ub J3;clear C0 A3 D0 hX hY hB J3 h1 h2
 go_enter Tryz.func93,Tryz.ntmps93
 go_wp2_with (refine HC.out.mono ?_;rintro r w1 ⟨rfl,rfl⟩)
 go_ret;exact ⟨rfl,rfl⟩
theorem Qwo {w:World} {blk:Nat}:SWO (ltOf (cfM (w:=w) (blk:=blk))):=by
 refine ⟨fun x=>?_,fun x y z h1 h2=>?_,fun x y z h1 h2=>?_⟩
 ·unfold ltOf cfM;rw[Qco];rfl
 ·unfold ltOf cfM at*;rw[Xag] at*;have a1:=Q3t y.m.es x.m.es;have a2:=Q3t z.m.es y.m.es;have a3:=Q3t z.m.es x.m.es;have:=Q68 x.m.es y.m.es z.m.es (by omega) (by omega);omega
 ·unfold ltOf cfM at*;rw[TX] at*;intro h3;have a3:=Q3t z.m.es x.m.es
  by_cases e1:Q3j y.m.es x.m.es=0
  ·have e:=(Q7i _ _).1 e1;rw[e] at h2;exact h2 h3
  ·by_cases e2:Q3j z.m.es y.m.es=0
   ·have e:=(Q7i _ _).1 e2;rw[<-e] at h1;exact h1 h3
   ·have:=Q68 z.m.es y.m.es x.m.es (by omega) (by omega);omega
theorem Qwp {B g n c:Nat} {w:World} {outs:List Q01} (h:Q1r B w (some ⟨g,0,none⟩) n c outs) (hn:n<=1000) (y6:∀m∈outs,-65536<=m.exp/\m.exp<=65536):
 Calls Tryz.prog 189 #[.slice (some ⟨g,0,none⟩) n c,.func (.func 93) #[] #[]] w fun r w'=>r=.returned (.tuple #[])/\
  ∃outs',Q08 w' (some ⟨g,0,none⟩) n c outs'/\outs'.Perm outs/\outs'.Pairwise (fun p q=>¬Q3j p.es q.es<0)/\Below B w w':=by
 have hg:=h.lt rfl;have R6:B<=g:=hg.1;have J5:g<w.heap.size:=hg.2;obtain ⟨xs,Qe⟩:=h.row;have N3:∀j m,outs[j]?=some m->∃x:SM w g,x.m=m/\(∀c,c<4->w.cell? ⟨g,j*4+c,none⟩=some (Qo7 x)[c]!):=fun j m hm=>by
  obtain ⟨g',e,aw,lw,cw,be,oe,le,ce,h0,h1,h2,h3,h4,h5,h6,h7⟩:=h.ent j m hm;injection e with e;injection e with e;subst e;refine ⟨⟨m,aw,lw,cw,be,oe,le,ce,h5,h6,h7,h4⟩,rfl,fun c hc=>?_⟩
  match c,hc with
  |0,_=>exact h0
  |1,_=>exact h1
  |2,_=>exact h2
  |3,_=>exact h3
 have S3:=Qe.1.cap;have eg:∀args w,(callFunc 93 args).run Tryz.prog w=.ok (.enter 93 args) w:=enters_of Tryz.func93 (by kernel_rfl) rfl
 by_cases Q0:outs=[]
 ·subst Q0;have A9:n=0:=h.len.symm;subst A9;have K4:=AnyQ.slices_SortFunc Tryz.J4f 4 (fun w=>by kernel_rfl) (fun w=>by kernel_rfl) (fun _:Unit=>[.bool false,.int .i64 0,.slice none 0 0,.slice none 0 0]) (fun _=>rfl) (fun _ v hv=>by simp at hv;rcases hv with rfl|rfl|rfl <;> rfl) (fun _ _=>0) ⟨fun _=>rfl,fun _ _ _ h _=>h,fun _ _ _ h _=>h⟩ 93 #[] g 0 c #[] w eg (fun m os dk _ x y=>by
   refine (Qds _ _ _ none 0 0 [] _ _ _ none 0 0 [] _ ⟨rfl,Ue _,Ut _,⟨fun x hx=>(by cases hx),fun _ _ e=>(by cases e)⟩,.inl rfl⟩ ⟨rfl,Ue _,Ut _,⟨fun x hx=>(by cases hx),fun _ _ e=>(by cases e)⟩,.inl rfl⟩).mono ?_;rintro e w' ⟨rfl,rfl⟩;exact ⟨rfl,0,_,by rw[alloc_eq_grow,alloc_eq_grow,grow_grow];rfl⟩) (fun j hj=>by simp[flatK] at hj) hg.2 (by decide)
  refine Xbd (show Calls Tryz.prog 189 _ _ _ from K4) ?_;rintro e w' ⟨rfl,d',k,os,hp,hs,rfl⟩;exact ⟨rfl,[],⟨rfl,Ut _,by have:=S3.2;simpa[maxLen] using this,.inl rfl⟩,List.Perm.refl _,List.Pairwise.nil,rfl,rfl,rfl,Qaz _ _ _ _ _ _ _ _,fun i hi=>Qfx _ _ _ _ _ _ _ _ (by omega) (by omega)⟩
 obtain ⟨m0,o9⟩:∃m0,outs[0]?=some m0:=by
  cases outs with
  |nil=>exact absurd rfl Q0
  |cons x r=>exact ⟨x,rfl⟩
 obtain ⟨x0,_,_⟩:=N3 0 m0 o9
 haveI:Inhabited (SM w g):=⟨x0⟩
 obtain ⟨d,C3,V2⟩:∃d:Array (SM w g),d.toList.map (·.m)=outs/\∀j,j<d.size->∀c,c<4->w.cell? ⟨g,j*4+c,none⟩=some (Qo7 d[j]!)[c]! :=by
  refine ⟨(List.ofFn fun j:Fin outs.length=>Classical.choose (N3 j.val _ (Ua j.isLt))).toArray,?_,fun j hj c hc=>?_⟩
  ·rw[List.toList_toArray,List.map_ofFn];refine Xa9 fun i=>?_;rw[List.getElem?_ofFn]
   by_cases hi:i<outs.length
   ·rw[dif_pos hi,Ua hi];exact congrArg some (Classical.choose_spec (N3 i _ (Ua hi))).1
   ·rw[dif_neg hi,UU (by omega)]
  ·have Yf:j<outs.length:=(by simpa using hj);have e:(List.ofFn fun j:Fin outs.length=>Classical.choose (N3 j.val _ (Ua j.isLt))).toArray[j]! =Classical.choose (N3 j _ (Ua Yf)):=by
    rw[getElem!_pos _ j hj];simp
   rw[e];exact (Classical.choose_spec (N3 j _ (Ua Yf))).2 c hc
 have hdn:d.size=n:=by rw[<-h.len,<-C3,UK,Array.length_toList]
 have hH:HoldsK Qo7 4 w g 0 d:=by
  intro t ht;rw[size_flatK] at ht;rw[get_flatK _ _ _ t ht,UH];have h1:=V2 (t / 4) (by omega) (t%4) (TK _ (by decide));rw[show t / 4*4+t%4=t by omega] at h1;exact ⟨h1,Qe.1.frozen0 t⟩
 have C5:CmpLays Tryz.prog 93 #[] (Qo7 (w:=w) (blk:=g)) 4 cfM g 0 d.size w:=by
  intro m os dk _ x y;have hs:=Qaz (Qo7 (w:=w) (blk:=g)) 4 w g 0 m dk os;have hc:=fun p h1 h2=>Qfw (Qo7 (w:=w) (blk:=g)) 4 w g 0 m dk os (p:=p) h1 h2;refine (Qds _ _ _ _ _ _ _ _ _ _ _ _ _ _ _ (x.ints hs hc) (y.ints hs hc)).mono ?_;rintro e w' ⟨rfl,rfl⟩;exact ⟨rfl,0,_,by rw[alloc_eq_grow,alloc_eq_grow,grow_grow];rfl⟩
 have K4:=AnyQ.slices_SortFunc Tryz.J4f 4 (fun w=>by kernel_rfl) (fun w=>by kernel_rfl) (Qo7 (w:=w) (blk:=g)) Qwm Qwn cfM Qwo 93 #[] g 0 c d w eg C5 hH hg.2 (by omega);rw[hdn] at K4;refine Xbd (show Calls Tryz.prog 189 _ _ _ from K4) ?_;rintro e w' ⟨rfl,d',k,os,hp,hs,rfl⟩;have hperm:d'.toList.Perm d.toList:=by
  have h1:=hp.2.2;have e1:(d'.extract 0 n)=d':=by rw[show n=d'.size by rw[hp.1,hdn],Array.extract_size]
  have e2:(d.extract 0 n)=d:=by rw[<-hdn,Array.extract_size]
  rwa[e1,e2] at h1
 have hdsz:d'.size=n:=by rw[hp.1,hdn]
 have KM:(d'.toList.map (·.m)).Perm outs:=by rw[<-C3];exact hperm.map _
 have hH':=holdsK_sortWorldK (Qo7 (w:=w) (blk:=g)) 4 w g 0 k d d' os hg.2 hH hp.1;have WY:=Qaz (Qo7 (w:=w) (blk:=g)) 4 w g 0 k d' os;have hce:=fun p h1 h2=>Qfw (Qo7 (w:=w) (blk:=g)) 4 w g 0 k d' os (p:=p) h1 h2;refine ⟨rfl,d'.toList.map (·.m),⟨by rw[UK,Array.length_toList,hdsz],S3.1,by have:=S3.2;simpa[maxLen] using this,.inr ⟨g,0,rfl,Uc hg.2 WY,fun j m hm=>?_⟩⟩,KM,?_,rfl,rfl,rfl,WY,fun i hi=>Qfx _ _ _ _ _ _ _ _ (by omega) (by omega)⟩
 ·have hj:j<d'.size:=by have:=(Ul.1 hm).1;simpa using this
  have Ji:d'[j]!.m=m:=by
   rw[UP,Ts,Ti hj] at hm;rw[getElem!_pos d' j hj];simpa using hm
  have hc:=fun c (hc:c<4)=>(hH'.cell hj hc).1;have hb:=y6 m (KM.mem_iff.1 (Uf hm));have hwx:WordsIn (sortWorldK (Qo7 (w:=w) (blk:=g)) 4 w g 0 k d' os) d'[j]!.aw d'[j]!.lw d'[j]!.cw d'[j]!.m.ws:=by
   have hw:=d'[j]!.hw;refine ⟨hw.len,hw.cap,hw.most,hw.low,?_⟩;rcases Qe.off hw with h0|ho
   ·exact .inl h0
   rcases hw.rd with h0|⟨b,o,e,U4,X3⟩
   ·exact .inl h0
   ·exact .inr ⟨b,o,e,Uc U4 WY,fun i x hx=>(hce ⟨b,o+i,none⟩ U4 (fun e2=>ho _ e ⟨_,rfl,e2.symm⟩)).trans (X3 i x hx)⟩
  subst Ji;exact ⟨_,_,_,_,_,_,hc 0 (by decide),hc 1 (by decide),hc 2 (by decide),hc 3 (by decide),hwx,d'[j]!.ints WY hce,by omega,by omega⟩
 ·rw[Xbm,List.pairwise_iff_getElem];intro i j hi hj Vo;have h1:=hs i j (Ut _) Vo (by have:j<d'.size:=(by simpa using hj);omega)
  have QJ:i<d'.size:=by simpa using hi
  have Yf:j<d'.size:=by simpa using hj
  rw[getElem!_pos d' i QJ,getElem!_pos d' j Yf] at h1;unfold ltOf cfM at h1;rw[TX] at h1;simpa using h1
theorem Qwq {B n c:Nat} {w:World} {a:OA} {outs:List Q01} (h:Q1r B w a n c outs) (hn:n<=1000) (y6:∀m∈outs,-65536<=m.exp/\m.exp<=65536):
 Calls Tryz.prog 189 #[.slice a n c,.func (.func 93) #[] #[]] w fun r w'=>r=.returned (.tuple #[])/\
  ∃outs',Q08 w' a n c outs'/\outs'.Perm outs/\outs'.Pairwise (fun p q=>¬Q3j p.es q.es<0)/\Below B w w':=by
 obtain ⟨xs,hr⟩:=h.row;rcases hr.1.form with ⟨h0,h1⟩|⟨g,cur,h0,_⟩
 ·subst h0;obtain ⟨rfl,rfl⟩:n=0/\c=0:=by omega
  have ho:outs=[]:=TP h.len;subst ho;have K4:=AnyF.slices_SortFunc_none Tryz.J4f none 0 (.func (.func 93) #[] #[]) w;refine Xbd (show Calls Tryz.prog 189 _ _ _ from K4) ?_;rintro e w' ⟨rfl,rfl⟩;exact ⟨rfl,[],⟨rfl,Ue _,by decide,.inl rfl⟩,List.Perm.refl _,List.Pairwise.nil,Ug _ _⟩
 ·subst h0;exact Qwp h hn y6
theorem Qz8 {k:Nat} {l:List Q0b} {all outs outs':List Q01} (X2:1<=k) (Y5:k<=4) (u6:(Qb6 l).Perm (Q1u l)) (E5:¬(Q1u l).any (fun p=> !Q9k p.1)=true) (h:all.map Q01.term=Qb6 l) (ho:outs.map Q01.term=(all.map Q01.term).filter (fun p=>decide (p.1≠0))) (Wz:outs.length<=24) (hp:outs'.Perm outs) (hs:outs'.Pairwise (fun p q=>¬Q3j p.es q.es<0)) (P2:∀m∈outs,OkM k m):
 Q25 l=.ok (outs'.map Q01.term)/\Q1o k outs':=by
 have hl:outs.length=((Q1u l).filter fun p=>decide (p.1≠0)).length:=by
  rw[<-UK (f:=Q01.term),ho,h];exact (u6.filter _).length_eq
 have Wy:(outs'.map Q01.term).Perm ((Q1u l).filter fun p=>decide (p.1≠0)):=by
  refine (hp.map _).trans ?_;rw[ho,h];exact u6.filter _
 have hD:Qcp ((Q1u l).filter fun p=>decide (p.1≠0)):=List.Pairwise.filter _ (Q6x l).1;have Q0:(outs'.map Q01.term).Pairwise fun p q=>p.2≠q.2:=Wy.symm.pairwise hD.once (fun {p q} h e=>h e.symm);have hd:outs'.Pairwise fun p q=>0<Q3j p.es q.es:=by
  rw[Xbm] at Q0;refine (hs.and Q0).imp fun {p q} h=>?_;have e0:Q3j p.es q.es≠0:=fun e=>h.2 ((Q7i _ _).1 e);have:=h.1;omega
 have hD':Qcp (outs'.map Q01.term):=by
  unfold Qcp;rw[Xbm];exact hd
 refine ⟨?_,X2,Y5,by rw[hp.length_eq];exact Wz,fun m hm=>P2 m (hp.mem_iff.1 hm),hd⟩;unfold Q25;rw[Up E5,Up (by rw[<-hl];omega)];exact congrArg _ (Qcp.same hD hD' fun p=>(Wy.mem_iff).symm)
theorem Q1r.exps {B n c k:Nat} {w:World} {a:OA} {outs:List Q01} (h:Q1r B w a n c outs) (P2:∀m∈outs,OkM k m):∀m∈outs,-65536<=m.exp/\m.exp<=65536:=by
 intro m hm;obtain ⟨j,hj,rfl⟩:=Xa2 hm;obtain ⟨g,_,aw,lw,cw,be,oe,le,ce,_,_,_,_,hw,_⟩:=h.ent j _ (Ua hj);exact (Q5g (P2 _ hm).1.2 hw.low).2
end Go.Proofs.YtidojbkhlenahaaGreatDoor
