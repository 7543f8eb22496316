/- Part 19 of the proof of LawParseBuilt: RdrD, RdrE. Condition: as each theorem says; none at the end. -/
import Derived.Test.YtdilmfakkppgpaaGreatDoorPkParseBuilt18
set_option maxRecDepth 100000
set_option maxHeartbeats 16000000
namespace Go.Proofs.YtdilmfakkppgpaaGreatDoor
open Go.RowKit WordsM DecM
def Qcg (L:LU) (r:PR Ex):PR Ex:=match r with
 | .error e=>.error e
 | .ok (b,q)=>if Q06 L (Q03 L q)=94 then
    (if 48<=(Q06 L (Q03 L (Q03 L q+1))).toNat/\(Q06 L (Q03 L (Q03 L q+1))).toNat<=56 then .ok (.pow b ((Q06 L (Q03 L (Q03 L q+1))).toNat-48),Q03 L (Q03 L q+1)+1) else .error (Q03 L (Q03 L q+1)))
   else .ok (b,Q03 L q)
theorem Qtz (sub:Nat->PR Ex) (opens:Bool) (L:LU) (most p:Nat) (bad:Bool):Q4f bad p (Q1t sub opens L most p)=Qcg L (Q4f bad p (Q4n sub opens L most p)):=by
 cases bad
 ·show Q1t sub opens L most p=Qcg L (Q4n sub opens L most p)
  unfold Q1t Qcg;cases Q4n sub opens L most p <;> rfl
 ·rfl
theorem Qhr {fp:Nat->Prop} {R:Nat} {w w':World} {x:Ex} {v:Value} (h:Q2v fp w x v) (ht:Q0f (OnR R) w w') (hR:fp R):Q2v fp w' x v:=h.turn ht fun k (hk:k=R)=>by subst hk;exact hR
theorem Qnq {w:World} {R:Nat} {s:ByteArray} {p most:Nat} {d:Int} {bad:Bool} (sub:Nat->PR Ex) (h:Q0q w R s (p:Int) (most:Int) d bad) (hp:p<=s.size) (hs:s.size<=281474976710656) (V8:0<=d) (hd:d<=16) (hT:∀W,Q0f (OnR R) w W->Q2n W)
 (O5:d<16->∀(W:World) (q:Nat),Q0q W R s (q:Int) (most:Int) (d+1) false->q<=s.size->(∀W',Q0f (OnR R) W W'->Q2n W')->Calls Tryz.prog 80 #[.pointer (some ⟨R,0,none⟩)] W (Q6p R s (most:Int) (d+1) (sub q) W)):
 Calls Tryz.prog 164 #[.pointer (some ⟨R,0,none⟩)] w (Q6p R s (most:Int) d (Q4f bad p (Q1t sub (decide (d<16)) s.data.toList most p)) w):=by
 have hb:=Qty sub h hp hs V8 hd hT O5;have hRw:=h.lt;rw[Qtz];obtain ⟨L,hL⟩:∃L,s.data.toList=L:=⟨_,rfl⟩;have QK:L.length=s.size:=by rw[<-hL];rfl
 rw[hL] at hb⊢;obtain ⟨r0,y4⟩:∃r0,Q4f bad p (Q4n sub (decide (d<16)) L most p)=r0:=⟨_,rfl⟩;rw[y4] at hb⊢;obtain ⟨X,hX⟩:∃X,Qcg L r0=X:=⟨_,rfl⟩;rw[hX];have H:=Xh6 hL QK hs hb hX hRw;clear h hp hs hT O5 hb hL QK y4 V8 hd hX hRw
 go_enter Tryz.func164,Tryz.ntmps164
 go_upto_region 2 with (go_at_call_of 191 (Value.pointer (some ⟨R,0,none⟩));refine (Xo3 H).mono ?_;rintro r w1 ⟨t,u,rfl,Y1,hN⟩;have H1:=Xh2 Y1 hN;clear Y1 hN)
 cases r0 with
 |error e=>
  have h1:=(Xe1 H1);have R2:=Q3g h1.1 h1.2 (Xo2 H);simp only[skS,nxB,Xa5] at R2;have H2:=Xh2 R2 h1.2;clear R2 h1;have n94:((((0:UInt8).toNat:Nat):Int) != 94)=true:=by decide
  go_wp2_with (go_at_call_of 81 (Value.pointer (some ⟨R,0,none⟩));refine (Xo0 H2).mono ?_;rintro r w2 ⟨rfl,G1,U1⟩;have H3:=Xh2 G1 U1;clear G1 U1)
  go_ret;have hX:X=.error e:=(Xo4 H).symm;rw[hX];exact Q6p.err ((Xo0 H1).trans0 (Xe1 H3)) (Xo0 H3) (Xe1 H2)
 |ok z=>
  obtain ⟨x,q0⟩:=z;have h1:=(Xe1 H1);obtain ⟨q,hq⟩:∃q,Q03 L q0=q:=⟨_,rfl⟩;have V4:q<=s.size:=by rw[<-hq,<-(Xo1 H)];exact Q1s (by have:=(Xo1 H);have:=h1.2.2;omega)
  obtain ⟨c,hc⟩:∃c,Q06 L q=c:=⟨_,rfl⟩;have F4:X=if c=94 then
   (if 48<=(Q06 L (Q03 L (q+1))).toNat/\(Q06 L (Q03 L (q+1))).toNat<=56 then .ok (.pow x ((Q06 L (Q03 L (q+1))).toNat-48),Q03 L (q+1)+1) else .error (Q03 L (q+1)))
   else .ok (x,q):=by
   have h:=(Xo4 H);unfold Qcg at h;simp only[hq,hc] at h;exact h.symm
  have R2:=Q3g h1.2.1 h1.2.2 (Xo2 H);rw[(Xo0 H)] at R2;simp only[skS,nxB,Tl,Xaq,hq,hc] at R2;have K4:IntKind.i64.wrap ((q:Int)+1)=(q:Int)+1:=by rw[Ut];have:=(Xo2 H);omega
  by_cases Zy:c=94
  ·subst Zy;have n94:((((94:UInt8).toNat:Nat):Int) != 94)=false:=(by decide);obtain ⟨q2,N4⟩:∃q2,Q03 L (q+1)=q2:=⟨_,rfl⟩;have hq1s:q+1<=s.size:=(by have:=Q0e hc (by decide);have:=(Xo1 H);omega);have Jv:q2<=s.size:=(by rw[<-N4,<-(Xo1 H)];exact Q1s (by have:=(Xo1 H);omega));have X6:=fun W (hW:Q0q W R s ((q+1:Nat):Int) (most:Int) d false)=>Q3g hW hq1s (Xo2 H);rw[(Xo0 H)] at X6;simp only[skS,Tl,Xaq,N4] at X6;rw[Us rfl,N4] at F4;have H2:=Xh5 R2 h1.1 X6 Jv F4;clear R2 h1 X6 N4 hq1s Jv F4 hq hc V4
   go_upto_region 4 with (go_at_call_of 81 (Value.pointer (some ⟨R,0,none⟩));refine (Xo0 H2).mono ?_;rintro r w2 ⟨rfl,G1,U1⟩;have k1:=G1.c1;have g1:=G1.f1;have H3:=Xh2 (G1.setAt ((q:Int)+1)) (U1.trans0 (Q0g w2 R 1 (.int .i64 ((q:Int)+1))));clear G1 U1)
   go_upto_region 6 with (go_at_call_of 81 (Value.pointer (some ⟨R,0,none⟩));refine ((Xo2 H2) _ (show Q0q _ R s (((q+1:Nat)):Int) (most:Int) d false from (Xo0 H3))).mono ?_;rintro r w3 ⟨rfl,r6,T5⟩;have H4:=Xh2 r6 ((Xe1 H3).trans0 T5);clear r6 T5)
   go_wp2_with (go_at_call_of 192 (Value.pointer (some ⟨R,0,none⟩));refine (Qe6 (Xo0 H4) (Xo3 H2) (Xo2 H) 0 8 (by decide)).mono ?_;rintro r w4 ⟨A7,Zb⟩;obtain ⟨z,hz⟩:∃z:Int,r=.returned (.int .i64 z):=by { rcases A7 with ⟨_,_,_,h,_⟩|⟨_,h,_⟩ <;> exact ⟨_,h⟩ };subst hz;have H5:=Xh2 A7 ((Xe1 H4).trans0 Zb);clear A7 Zb)
   go_ret;obtain ⟨A7,ht⟩:=H5.out;rw[(Xo0 H)] at A7;have hxw:=Qhr (Xo1 H2) ht (Xe5 H);have VY:=(Xo0 H1).trans0 ht;rcases A7 with ⟨_,h1,h2,h3,h4⟩|⟨h1,h3,h4⟩
   ·injection h3 with h3;injection h3 with _ h3;subst h3;rw[(Xe4 H2),Us ⟨by omega,by omega⟩];refine Q6p.okd VY ?_ h4 ?_
    ·rw[Q2v];refine ⟨_,congrArg (fun z=>Value.iface _ (.agg #[_,.int .i64 z])) (by omega),hxw⟩
    ·have h5:Q06 L q2≠0:=fun e=>by rw[e] at h1;exact absurd h1 (by decide)
     have:=Q6b h5;have:=(Xo1 H);omega
   ·rw[(Xe4 H2),Uq (fun h=>h1 ⟨trivial,by omega,by omega⟩)];exact Q6p.err VY h4 (Xo3 H2)
  ·have n93:((c.toNat:Int)==94)=false:=Qcf (k:=94) (by decide) Zy;have n94:((c.toNat:Int) != 94)=true:=(by rw[bne,n93];rfl);rw[Uq Zy] at F4;have H2:=Xh4 R2 h1.1 F4 V4;clear R2 h1 F4 V4 hq hc Zy
   go_wp2_with (go_at_call_of 81 (Value.pointer (some ⟨R,0,none⟩));refine (Xo0 H2).mono ?_;rintro r w2 ⟨rfl,G1,U1⟩;have H3:=Xh2 G1 U1;clear G1 U1)
   go_ret;rw[(Xo2 H2)];exact Q6p.okd ((Xo0 H1).trans0 (Xe1 H3)) (Qhr (Xo1 H2) (Xe1 H3) (Xe5 H)) (Xo0 H3) (Xe3 H2)
theorem Qhs:(Tryz.prog.info? 82).map (fun i=>(i.zero,i.size,i.bytes))=some (some .nilIface,1,16):=by kernel_rfl
theorem Qrb:(Tryz.prog.info? 4).map (fun i=>(i.zero,i.size,i.bytes))=some (some (.bool false),1,1):=by kernel_rfl
theorem Q0l {T:TypeId} {z:Value} {s b:Nat} (h:(Tryz.prog.info? T).map (fun i=>(i.zero,i.size,i.bytes))=some (some z,s,b)):∃i0:TypeInfo,Tryz.prog.info? T=some i0/\i0.zero=some z/\i0.size=s/\i0.bytes=b:=by
 cases hi:Tryz.prog.info? T with
 |none=>rw[hi] at h;cases h
 |some i0=>
  rw[hi] at h;simp only[UM,Un,Xbw] at h;exact ⟨i0,rfl,h.1,h.2.1,h.2.2⟩
theorem Q0q.keep {w w':World} {R:Nat} {s:ByteArray} {p m d:Int} {bad:Bool} {fp:Nat->Prop} (h:Q0q w R s p m d bad) (ht:Q0f fp w w') (hn:¬fp R):Q0q w' R s p m d bad:=
 ⟨(ht.cell (p:=⟨R,0,none⟩) h.lt hn).trans h.c0,(ht.cell (p:=⟨R,1,none⟩) h.lt hn).trans h.c1,(ht.cell (p:=⟨R,2,none⟩) h.lt hn).trans h.c2,(ht.cell (p:=⟨R,3,none⟩) h.lt hn).trans h.c3,(ht.cell (p:=⟨R,4,none⟩) h.lt hn).trans h.c4,
   (ht.frozen (p:=⟨R,0,none⟩) h.lt hn).trans h.f0,(ht.frozen (p:=⟨R,1,none⟩) h.lt hn).trans h.f1,(ht.frozen (p:=⟨R,2,none⟩) h.lt hn).trans h.f2,(ht.frozen (p:=⟨R,3,none⟩) h.lt hn).trans h.f3,(ht.frozen (p:=⟨R,4,none⟩) h.lt hn).trans h.f4,Ue h.lt ht.size,fun o ho=>(ht.cell (p:=⟨R,o,none⟩) h.lt hn).trans (h.c5 o ho)⟩
def fpR (b:Nat) (a:OA) (k:Nat):Prop:=k<=b∨∃x,a=some x/\x.block=k
structure Q6l (R:Nat) (w wr:World) (a:OA) (n c:Nat) (acc:List Ex) (vs:LV):Prop where
 turn:Q0f (OnR R) w wr
 cell:wr.cell? ⟨w.heap.size,0,none⟩=some (.slice a n c)
 frz:wr.frozen? ⟨w.heap.size,0,none⟩=false
 row:Row wr (w.heap.size+1) 82 1 a n c vs
 nodes:Q1b (fpR w.heap.size a) wr acc vs
 len:acc.length=n
theorem Q6l.lt {R:Nat} {w wr:World} {a:OA} {n c:Nat} {acc:List Ex} {vs:LV} (h:Q6l R w wr a n c acc vs):w.heap.size<wr.heap.size:=US h.cell
theorem Q6l.step {R:Nat} {w wr w':World} {a:OA} {n c:Nat} {acc:List Ex} {vs:LV} (h:Q6l R w wr a n c acc vs) (hR:R<w.heap.size) (ht:Q0f (OnR R) wr w'):Q6l R w w' a n c acc vs:=
 ⟨h.turn.trans0 ht,(ht.cell (p:=⟨w.heap.size,0,none⟩) h.lt (fun (e:w.heap.size=R)=>by omega)).trans h.cell,(ht.frozen (p:=⟨w.heap.size,0,none⟩) h.lt (fun (e:w.heap.size=R)=>by omega)).trans h.frz,
   h.row.turn ht (fun x hx (e:x.block=R)=>by
    rcases h.row.form with ⟨h0,_⟩|⟨g,cur,h0,h1,_⟩
    ·rw[h0] at hx;cases hx
    ·rw[h0] at hx;injection hx with hx;subst hx
     have e:g=R:=e;omega),h.nodes.turn ht (fun k (hk:k=R)=>by subst hk;exact .inl (TI hR)),h.len⟩
theorem Qht {R:Nat} {w w3 w4:World} {a:OA} {n c:Nat} {acc:List Ex} {vs:LV} (h:Q6l R w w3 a n c acc vs) {o:Obj} (m7:(w3.alloc o).grownBy w4 (Value.slice a n c).ownBlock) (v:Value):
 Q0f (fun k=>k=w.heap.size∨∃x,a=some x/\x.block=k) w3 (w4.setCell ⟨w.heap.size,0,none⟩ v):=by
 have h1:Q0f (fun k=>k=w.heap.size∨∃x,a=some x/\x.block=k) w3 (w3.alloc o):=Q0f.of_below (Ba) _;have h2:Q0f (fun k=>k=w.heap.size∨∃x,a=some x/\x.block=k) (w3.alloc o) w4:=Q0f.of_grown m7 fun r hr _=>by
  cases a with
  |none=>simp[Value.ownBlock] at hr
  |some x=>
   simp only[Value.ownBlock,Un] at hr;exact .inr ⟨x,rfl,hr⟩
 exact (h1.trans0 h2).trans0 (Q0f.setCell _ _ (p:=⟨w.heap.size,0,none⟩) (.inl rfl) _)
theorem Q1o {w:World} {B:Nat} {T:TypeId} {a:OA} {n c:Nat} {vs:LV} (h:Row w B T 1 a n c vs) {x:Addr} (hx:a=some x):B<=x.block/\x.block<w.heap.size:=by
 rcases h.form with ⟨h0,_⟩|⟨g,cur,h0,h1,h2,_⟩
 ·rw[h0] at hx;cases hx
 ·rw[h0] at hx;injection hx with hx;subst hx;exact ⟨h1,h2⟩
theorem Qrc {R:Nat} {w wr w3 w4:World} {a:OA} {n c:Nat} {acc:List Ex} {vs:LV} (hR:R<w.heap.size) (hr:Q6l R w wr a n c acc vs) (ht:Q0f (OnR R) wr w3) {o:Obj} (m7:(w3.alloc o).grownBy w4 (Value.slice a n c).ownBlock) {g cap:Nat} {x:Ex} {v:Value} (hx:Q2v (·<wr.heap.size) w3 x v)
 (I0:Row w4 (w.heap.size+1) 82 1 (some ⟨g,0,none⟩) (n+1) cap (vs++[v])) (R1:(Value.slice a n c).ownBlock=some g∨g=w3.heap.size+1) (Zv:w4.frozen? ⟨w.heap.size,0,none⟩=false) (O3:∃u,w4.cell? ⟨w.heap.size,0,none⟩=some u):
 Q6l R w (w4.setCell ⟨w.heap.size,0,none⟩ (.slice (some ⟨g,0,none⟩) (n+1) cap)) (some ⟨g,0,none⟩) (n+1) cap (acc++[x]) (vs++[v]):=by
 have h:=hr.step hR ht;have JX:=Qht h m7 (.slice (some ⟨g,0,none⟩) (n+1) cap);have hfb:∀k,(k=w.heap.size∨∃x,a=some x/\x.block=k)->fpR w.heap.size a k:=fun k hk=>hk.elim (fun e=>.inl (Nat.le_of_eq e)) .inr;have Va:∀k,fpR w.heap.size (some ⟨g,0,none⟩) k->fpR w.heap.size a k∨w3.heap.size<=k:=by
  rintro k (hk|⟨y,hy,hk⟩)
  ·exact .inl (.inl hk)
  ·injection hy with hy;subst hy;have hk:g=k:=hk;subst hk;rcases R1 with h1|h1
   ·cases a with
    |none=>simp[Value.ownBlock] at h1
    |some z=>
     simp only[Value.ownBlock,Un] at h1;exact .inl (.inr ⟨z,rfl,h1⟩)
   ·exact .inr (by omega)
 have hgb:=I0.fresh;refine ⟨h.turn.trans JX fun k hk hf=>?_,?_,?_,?_,?_,?_⟩
 ·exfalso;rcases hf with rfl|⟨y,hy,rfl⟩
  ·omega
  ·have:=Q1o h.row hy;omega
 ·obtain ⟨u,hu⟩:=O3;exact UE _ _ _ (by rw[hu];rfl)
 ·exact (Uh _ _ _ _).trans Zv
 ·exact I0.far (p:=⟨w.heap.size,0,none⟩) (fun y hy=>by injection hy with hy;subst hy;show g≠w.heap.size;omega) _
 ·have hU:∀k,(fpR w.heap.size a k∨fpR w.heap.size (some ⟨g,0,none⟩) k)->fpR w.heap.size a k∨w3.heap.size<=k:=fun k hk=>hk.elim .inl (Va k);have hA:∀k,fpR w.heap.size a k->k<wr.heap.size:=by
   rintro k (hk|⟨y,hy,rfl⟩)
   ·exact TO hk hr.lt
   ·exact (Q1o hr.row hy).2
  have p6:=((h.nodes.more hU).turn JX (fun k hk=>.inl (hfb k hk))).more (fp':=fpR w.heap.size (some ⟨g,0,none⟩)) (fun k hk=>.inl (.inr hk));have h1:=((hx.more (fp':=fun k=>fpR w.heap.size a k∨fpR w.heap.size (some ⟨g,0,none⟩) k) fun k hk=>(hU k hk).imp (hA k) id).turn JX (fun k hk=>.inl (hfb k hk))).more (fp':=fpR w.heap.size (some ⟨g,0,none⟩)) (fun k hk=>.inl (.inr hk));exact p6.snoc h1
 ·rw[Uj,h.len];rfl
def Qrd (R:Nat) (s:ByteArray) (m d:Int) (w:World) (n:Nat) (acc:List Ex) (vs:LV) (r0:PR Ex) (wx:World):Prop:=
 ∃g cap t u,wx.cell? ⟨w.heap.size,0,none⟩=some (.slice (some ⟨g,0,none⟩) (n+1) cap)/\Q0f (OnR R) w wx/\match r0 with
  | .ok (x,q)=>Q6l R w wx (some ⟨g,0,none⟩) (n+1) cap (acc++[x]) (vs++[.iface t u])/\Q0q wx R s (q:Int) m d false/\q<=s.size
  | .error q=>Q0q wx R s (q:Int) m d true/\q<=s.size
theorem Qu0 {R:Nat} {s:ByteArray} {m d:Int} {w wr w3 w4:World} {a:OA} {n c:Nat} {acc:List Ex} {vs:LV} {r0:PR Ex} {e:Ending} {t:TypeId} {u:Value} (hR:R<w.heap.size) (hr:Q6l R w wr a n c acc vs) (hN:Q6p R s m d r0 wr e w3) (he:e=.returned (.iface t u)) {o:Obj} (m7:(w3.alloc o).grownBy w4 (Value.slice a n c).ownBlock) {g cap:Nat}
 (I0:Row w4 (w.heap.size+1) 82 1 (some ⟨g,0,none⟩) (n+1) cap (vs++[.iface t u])) (R1:(Value.slice a n c).ownBlock=some g∨g=w3.heap.size+1) (Zv:w4.frozen? ⟨w.heap.size,0,none⟩=false) (O3:w4.cell? ⟨w.heap.size,0,none⟩=some (.slice a n c)):
 Qrd R s m d w n acc vs r0 (w4.setCell ⟨w.heap.size,0,none⟩ (.slice (some ⟨g,0,none⟩) (n+1) cap)):=by
 subst he;obtain ⟨t',u',he,ht,h2⟩:=hN;injection he with he;injection he with e1 e2;subst e1;subst e2;have y6:=hr.step hR ht;have JX:=Qht y6 m7 (.slice (some ⟨g,0,none⟩) (n+1) cap);have hnR:¬(R=w.heap.size∨∃x,a=some x/\x.block=R):=by
  rintro (h|⟨y,hy,h⟩)
  ·omega
  ·have:=Q1o y6.row hy;omega
 have hfw:Q0f (OnR R) w (w4.setCell ⟨w.heap.size,0,none⟩ (.slice (some ⟨g,0,none⟩) (n+1) cap)):=y6.turn.trans JX fun k hk hf=>by
  exfalso;rcases hf with rfl|⟨y,hy,rfl⟩
  ·omega
  ·have:=Q1o y6.row hy;omega
 refine ⟨g,cap,t,u,UE _ _ _ (by rw[O3];rfl),hfw,?_⟩;cases r0 with
 |error q=>exact ⟨h2.1.keep JX hnR,h2.2⟩
 |ok z=>exact ⟨Qrc hR hr ht m7 h2.1 I0 R1 Zv ⟨_,O3⟩,h2.2.1.keep JX hnR,h2.2.2⟩
theorem Qnr (sub:Nat->PR Ex) (opens:Bool) (L:LU) (most f p:Nat) (acc:List Ex) (bad:Bool):Q4f bad p (Q36 sub opens L most (f+1) p acc)=(match Q4f bad p (Q1t sub opens L most p) with
 | .error e=>.error e
 | .ok (x,q)=>if Q06 L (Q03 L q)=42 then Q36 sub opens L most f (Q03 L q+1) (acc++[x]) else .ok (.prod (acc++[x]),Q03 L q)):=by
 cases bad
 ·show Q36 sub opens L most (f+1) p acc=_
  rw[Q36];rfl
 ·rfl
theorem Qwk {R:Nat} {w w':World} {g n c:Nat} {acc:List Ex} {vs:LV} (h:Q6l R w w' (some ⟨g,0,none⟩) n c acc vs) (h0:acc≠[]):Q2v (·<w.heap.size) w' (.prod acc) (.iface 133 (.agg #[.slice (some ⟨g,0,none⟩) n c])):=by
 have f8:∀k,k<w.heap.size->fpR w.heap.size (some ⟨g,0,none⟩) k∨w'.heap.size<=k:=fun k hk=>.inl (.inl (TI hk));have hg:=Q1o h.row rfl;have hc:=h.row.cap;have B7:w.heap.size+1<=g:=hg.1;rw[Q2v];refine ⟨g,c,by rw[h.len],fun hk=>by omega,hg.2,by rw[h.len];exact hc.1,hc.2,h0,(h.nodes.more f8).row 0 fun j v hv=>?_⟩;obtain ⟨g',e,_,_,V0⟩:=h.row.at_ hv;injection e with e;injection e with e;subst e;rw[UB];exact V0
theorem Qch {fp:Nat->Prop} {w w':World} (h:Q0f fp w.drew w'):Q0f fp w w':=⟨h.os,h.tape,h.output,h.size,h.block⟩
theorem Qu1 {w:World} {R:Nat} {s:ByteArray} {p most:Nat} {d:Int} {bad:Bool} (sub:Nat->PR Ex) (h:Q0q w R s (p:Int) (most:Int) d bad) (hp:p<=s.size) (hs:s.size<=1000000) (V8:0<=d) (hd:d<=16) (hT:∀W,Q0f (OnR R) w W->Q2n W) (u6:decide (d<16)=true->∀p,p<=s.data.toList.length->Q4o s.data.toList p (sub p))
 (O5:d<16->∀(W:World) (q:Nat),Q0q W R s (q:Int) (most:Int) (d+1) false->q<=s.size->(∀W',Q0f (OnR R) W W'->Q2n W')->Calls Tryz.prog 80 #[.pointer (some ⟨R,0,none⟩)] W (Q6p R s (most:Int) (d+1) (sub q) W)):
 Calls Tryz.prog 133 #[.pointer (some ⟨R,0,none⟩)] w (Q6p R s (most:Int) d (Q4f bad p (Q36 sub (decide (d<16)) s.data.toList most (s.size+1) p [])) w):=by
 obtain ⟨i0,O1,P1,K1,J1⟩:=Q0l Qhs;obtain ⟨L,hL⟩:∃L,s.data.toList=L:=⟨_,rfl⟩;have QK:L.length=s.size:=by rw[<-hL];rfl
 rw[hL];obtain ⟨X,hX⟩:∃X,Q4f bad p (Q36 sub (decide (d<16)) L most (s.size+1) p [])=X:=⟨_,rfl⟩;rw[hX];have hR:=h.lt;have T4:Bw w (w.alloc (.cells #[.slice none 0 0] 133)):=Ba;have Z0:Q6l R w (w.alloc (.cells #[.slice none 0 0] 133)) none 0 0 [] []:=
  ⟨Q0f.of_below T4 _,by rw[Ux _ _ _ _ _ _ (Ul _ _)];rfl,TC _ _ _ _ _ (Ul _ _),Row.nil_ _ _ _ _,trivial,rfl⟩
 have H:=Xh7 hL QK hs hX hR Z0 (h.step T4);have HS:=Xh4 V8 hd hT O5;rw[hL] at u6;have HP:=Xh2 hp u6;clear h hp hs hT O5 u6 hL QK V8 hd hX hR Z0 T4
 go_enter Tryz.func133,Tryz.ntmps133
 go_wp2_with fail
 go_step3
 go_wp2_with fail
 go_step3
 go_wp2_with fail
 go_loopw [] (fun wr=>∃(f p':Nat) (bd:Bool) (a:OA) (n c:Nat) (acc:List Ex) (vs:LV),Q6l R w wr a n c acc vs/\Q0q wr R s (p':Int) (most:Int) d bd/\p'<=s.size/\s.size+1<=f+p'/\n<=p'/\X=Q4f bd p' (Q36 sub (decide (d<16)) L most f p' acc)) (fun wr=>s.size-atOf wr R)
 case atStart=>exact ⟨s.size+1,p,bad,none,0,0,[],[],(Xo5 H),(Xe6 H),(Xo0 HP),by omega,Uu _,(Xo3 H).symm⟩
 case round=>
  obtain ⟨f,p',bd,a,n,c,acc,vs,Z0,hr,o9,hf,hn,F4⟩:=hrel;obtain ⟨f,rfl⟩:∃f',f=f'+1:=⟨f-1,by omega⟩;rw[Qnr] at F4;have hfa:=Qnq sub hr.drew o9 (by have:=(Xo2 H);omega) (Xo0 HS) (Xo1 HS) (fun W hW=>(Xo2 HS) W (Z0.turn.trans0 (Qch hW))) (Xe3 HS);rw[(Xo0 H)] at hfa;obtain ⟨r0,y4⟩:∃r0,Q4f bd p' (Q1t sub (decide (d<16)) L most p')=r0:=⟨_,rfl⟩;rw[y4] at hfa F4;have hgo:∀x q0,r0=.ok (x,q0)->p'<q0:=fun x q0 e=>by
   rw[e] at y4;cases bd with
   |true=>cases y4
   |false=>
    have hm:=Q5r (most:=most) (Xe1 HP) (p:=p') (by have:=(Xo1 H);omega);have A1:Q1t sub (decide (d<16)) L most p'=.ok (x,q0):=y4;rw[A1] at hm;exact hm.1
  have HG:=Ua hgo;have ZZ:=Z0.cell;have hkd:wr.drew.cell? ⟨w.heap.size,0,none⟩=some (.slice a n c):=ZZ;have Z1:s.size<=1000000:=(Xo2 H);have p6:n+1<=1000001:=by omega
  have HF:=Xh7 hfa Z0 hr o9 hf hn F4;clear hfa Z0 hr o9 hf F4 y4 hn Z1 hgo
  go_upto_region 2 with fail
  go_cut [] (fun wx=>Qrd R s (most:Int) d w n acc vs r0 wx)
  case first=>
   go_region_law (first
    |(refine Q2y (by rfl) 164 #[.pointer (some ⟨R,0,none⟩)] (by simp[go_sem]) ?_;refine (Xo0 HF).mono ?_;rintro e w3 ⟨t,u,rfl,JH⟩;refine ⟨_,rfl,?_⟩;(have hN:Q6p R s (most:Int) d r0 wr (.returned (.iface t u)) w3:=⟨t,u,rfl,Qch JH.1,JH.2⟩);(have y6:=(Xo1 HF).step (Xo4 H) (Qch JH.1));(have q0:=y6.cell);(have qa:(w3.alloc (.cells #[.iface t u] 82)).cell? ⟨w.heap.size,0,none⟩=some (.slice a n c):=(UX _ _ _ y6.lt).trans q0);(have row3:=y6.row.alloc (.cells #[.iface t u] 82));(have Jx:=y6.lt);(have hfz3:=y6.frz);(have H3:=Xh2 hN y6);clear hN JH y6)
    |(refine step_append_lies _ (by rfl) _ _ _ (by rfl) (w.heap.size+1) 82 i0 _ 1 16 Tryz.underlying127 O1 P1 K1 J1 rfl (by omega) (.slice a n c) n vs (by rfl) row3 ⟨w3.heap.size,0,none⟩ 1 1 [.iface t u] (by rfl) (by rfl) (TA (cs:= #[.iface t u]) (t:=82) (fr:=(0,0)) (Ul w3 _)) (by simp[Value.oneCell']) (by omega) (by unfold maxLen;omega) (by omega) (by rw[Uo];omega) (w3.heap.size+1) (by simp) ?_;intro g cap w4 D8 D4 R1 hltg;(have C1:some w.heap.size≠(Value.slice a n c).ownBlock:=by { intro e;cases a with|none=>simp[Value.ownBlock] at e|some y=>{ simp only[Value.ownBlock,Un] at e;have:=Q1o row3 rfl;omega } });(have c4:=(D4.cell_far ⟨w.heap.size,0,none⟩ (by rw[Uo];exact Nat.lt_succ_of_lt Jx) C1).trans qa);(have f4:w4.frozen? ⟨w.heap.size,0,none⟩=false:=(Xbe (D4.block _ (by rw[Uo];exact Nat.lt_succ_of_lt Jx) C1)).trans ((Xbe (((Uf w3.heap.size w3).alloc (Ug _) _).block _ Jx)).trans hfz3));(have hcut0:=Qu0 (Xo4 H) (Xo1 HF) (Xo0 H3) rfl D4 D8 R1 f4 c4);(have H4:=Ua hcut0);clear hcut0 D4 D8 R1))
   all_goals go_wp2_with fail
   all_goals go_meet
   all_goals exact H4.out
  case rest=>
   obtain ⟨g,cap,t,u,hk,VY,h2⟩:=hcut;have HK:=Xh2 VY h2;have hX:=(Xe6 HF);clear VY h2 hkd;cases r0 with
   |error e=>
    have h1:=(Xe1 HK);have R2:=Q3g h1.1 h1.2 (by have:=(Xo2 H);omega);simp only[skS,nxB,Xa5] at R2;have H2:=Xh3 R2 h1.2 hX;clear R2 h1 hX;have n42:((((0:UInt8).toNat:Nat):Int)==42)=false:=by decide
    go_wp2_with (go_at_call_of 81 (Value.pointer (some ⟨R,0,none⟩));refine (Xo0 H2).mono ?_;rintro r w2 ⟨rfl,G1,U1⟩;have k2:=(U1.cell (p:=⟨w.heap.size,0,none⟩) (US hk) (fun (e:w.heap.size=R)=>by have:=(Xo4 H);omega)).trans hk;have H3:=Xh2 G1 U1;clear G1 U1)
    first|rw[Xae]|skip
    go_ret;rw[(Xe2 H2)];exact Q6p.err ((Xo0 HK).trans0 (Xe1 H3)) (Xo0 H3) (Xo1 H2)
   |ok z=>
    obtain ⟨x,q0⟩:=z;have h1:=(Xe1 HK);obtain ⟨q,hq⟩:∃q,Q03 L q0=q:=⟨_,rfl⟩;have V4:q<=s.size:=(by rw[<-hq,<-(Xo1 H)];exact Q1s (by have:=(Xo1 H);have:=h1.2.2;omega));obtain ⟨c,hc⟩:∃c,Q06 L q=c:=⟨_,rfl⟩;have F4:X=if c=42 then Q36 sub (decide (d<16)) L most f (q+1) (acc++[x]) else .ok (.prod (acc++[x]),q):=by
     rw[hX];simp only[hq,hc]
    have R2:=Q3g h1.2.1 h1.2.2 (by have:=(Xo2 H);omega);rw[(Xo0 H)] at R2;simp only[skS,nxB,Tl,Xaq,hq,hc] at R2;have QM:p'<q:=(by have:=HG.out x q0 rfl;have:=Q1m L q0;omega);have K4:IntKind.i64.wrap ((q:Int)+1)=(q:Int)+1:=by rw[Ut];have:=(Xo2 H);omega
    by_cases h42:c=42
    ·subst h42;have E9:q+1<=s.size:=(by have:=Q0e hc (by decide);have:=(Xo1 H);omega);rw[Us rfl] at F4;have n42:((((42:UInt8).toNat:Nat):Int)==42)=true:=(by decide);have H2:=Xh5 R2 h1.1 F4 E9 QM;clear R2 h1 F4 hX E9 QM hq hc V4
     go_wp2_with (go_at_call_of 81 (Value.pointer (some ⟨R,0,none⟩));refine (Xo0 H2).mono ?_;rintro r w2 ⟨rfl,G1,U1⟩;have k1:=G1.c1;have g1:=G1.f1;have H3:=Xh2 G1 U1;clear G1 U1)
     have JT:Q0q (w2.setCell ⟨R,1,none⟩ (.int .i64 ((q:Int)+1))) R s ((q+1:Nat):Int) (most:Int) d false:=(Xo0 H3).setAt ((q:Int)+1);refine ⟨⟨f,q+1,false,_,n+1,cap,acc++[x],vs++[.iface t u],((Xo1 H2).step (Xo4 H) (Xe1 H3)).step (Xo4 H) (Q0g w2 R 1 (.int .i64 ((q:Int)+1))),JT,(Xo3 H2),?_,?_,(Xo2 H2)⟩,?_⟩
     ·have:=(Xo4 HF);have:=(Xe4 H2);omega
     ·have:=(Xo5 HF);have:=(Xe4 H2);omega
     ·rw[JT.atOf,(Xo2 HF).atOf];have:=(Xo3 H2);have:=(Xe4 H2);omega
    ·rw[Uq h42] at F4;have n42:((c.toNat:Int)==42)=false:=Qcf (k:=42) (by decide) h42;have H2:=Xh4 R2 h1.1 F4 V4;clear R2 h1 F4 hX V4 QM hq hc h42
     go_wp2_with (go_at_call_of 81 (Value.pointer (some ⟨R,0,none⟩));refine (Xo0 H2).mono ?_;rintro r w2 ⟨rfl,G1,U1⟩;have k2:=(U1.cell (p:=⟨w.heap.size,0,none⟩) (US hk) (fun (e:w.heap.size=R)=>by have:=(Xo4 H);omega)).trans hk;have H3:=Xh2 G1 U1;clear G1 U1)
     first|rw[Xae]|skip
     go_ret;rw[(Xo2 H2)];have y6:=(Xo1 H2).step (Xo4 H) (Xe1 H3);refine Q6p.okd ((Xo0 HK).trans0 (Xe1 H3)) ?_ (Xo0 H3) (Xe3 H2);exact Qwk y6 (by simp)
end Go.Proofs.YtdilmfakkppgpaaGreatDoor
