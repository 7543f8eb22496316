/- Part 19 of the proof of LawParseMeans: RdrD, RdrE. Condition: as each theorem says; none at the end. -/
import Derived.Test.YtdilmfakkppgpaaGreatDoorPkParseMeans18
set_option maxRecDepth 100000
set_option maxHeartbeats 16000000
namespace Go.Proofs.YtdilmfakkppgpaaGreatDoor
open Go.RowKit WordsM DecM
def Qba (L:List UInt8) (r:PR Ex):PR Ex:=match r with
 | .error e=>.error e
 | .ok (b,q)=>if Q09 L (Q07 L q)=94 then
    (if 48<=(Q09 L (Q07 L (Q07 L q+1))).toNat/\(Q09 L (Q07 L (Q07 L q+1))).toNat<=56 then .ok (.pow b ((Q09 L (Q07 L (Q07 L q+1))).toNat-48),Q07 L (Q07 L q+1)+1) else .error (Q07 L (Q07 L q+1)))
   else .ok (b,Q07 L q)
theorem Qs5 (sub:Nat->PR Ex) (opens:Bool) (L:List UInt8) (most p:Nat) (bad:Bool):Q44 bad p (Q1r sub opens L most p)=Qba L (Q44 bad p (Q4u sub opens L most p)):=by
 cases bad
 ·show Q1r sub opens L most p=Qba L (Q4u sub opens L most p)
  unfold Q1r Qba
  cases Q4u sub opens L most p <;> rfl
 ·rfl
theorem Qfz {fp:Nat->Prop} {R:Nat} {w w':World} {x:Ex} {v:Value} (h:Q2k fp w x v) (ht:Q0n (OnR R) w w') (hR:fp R):Q2k fp w' x v:=h.turn ht fun k (hk:k=R)=>by subst hk;exact hR
theorem Qm9 {w:World} {R:Nat} {s:ByteArray} {p most:Nat} {d:Int} {bad:Bool} (sub:Nat->PR Ex) (h:Q0p w R s (p:Int) (most:Int) d bad) (hp:p<=s.size) (hs:s.size<=281474976710656) (hd0:0<=d) (hd:d<=16) (hT:∀W,Q0n (OnR R) w W->Q24 W)
 (hsub:d<16->∀(W:World) (q:Nat),Q0p W R s (q:Int) (most:Int) (d+1) false->q<=s.size->(∀W',Q0n (OnR R) W W'->Q24 W')->Calls Tryz.prog 80 #[.pointer (some ⟨R,0,none⟩)] W (Q5u R s (most:Int) (d+1) (sub q) W)):
 Calls Tryz.prog 164 #[.pointer (some ⟨R,0,none⟩)] w (Q5u R s (most:Int) d (Q44 bad p (Q1r sub (decide (d<16)) s.data.toList most p)) w):=by
 have hb:=Qs4 sub h hp hs hd0 hd hT hsub
 have hRw:=h.lt
 rw[Qs5]
 obtain ⟨L,hL⟩:∃L,s.data.toList=L:=⟨_,rfl⟩
 have hLs:L.length=s.size:=by rw[<-hL];rfl
 rw[hL] at hb⊢
 obtain ⟨r0,hr0⟩:∃r0,Q44 bad p (Q4u sub (decide (d<16)) L most p)=r0:=⟨_,rfl⟩
 rw[hr0] at hb⊢
 obtain ⟨X,hX⟩:∃X,Qba L r0=X:=⟨_,rfl⟩
 rw[hX]
 have H:=Xh6 hL hLs hs hb hX hRw
 clear h hp hs hT hsub hb hL hLs hr0 hd0 hd hX hRw
 go_enter Tryz.func164,Tryz.ntmps164
 go_upto_region 2 with (go_at_call_of 191 (Value.pointer (some ⟨R,0,none⟩));refine (Xo3 H).mono ?_;rintro r w1 ⟨t,u,rfl,ht1,hN⟩;have H1:=Xh2 ht1 hN;clear ht1 hN)
 cases r0 with
 |error e=>
  have h1:=(Xe1 H1)
  have hsg:=Q30 h1.1 h1.2 (Xo2 H)
  simp only[skS,nxB,if_true] at hsg
  have H2:=Xh2 hsg h1.2
  clear hsg h1
  have n94:((((0:UInt8).toNat:Nat):Int) != 94)=true:=by decide
  go_wp2_with (go_at_call_of 81 (Value.pointer (some ⟨R,0,none⟩));refine (Xo0 H2).mono ?_;rintro r w2 ⟨rfl,hr2,ht2⟩;have H3:=Xh2 hr2 ht2;clear hr2 ht2)
  go_ret
  have hX:X=.error e:=(Xo4 H).symm
  rw[hX]
  exact Q5u.err ((Xo0 H1).trans0 (Xe1 H3)) (Xo0 H3) (Xe1 H2)
 |ok z=>
  obtain ⟨x,q0⟩:=z
  have h1:=(Xe1 H1)
  obtain ⟨q,hq⟩:∃q,Q07 L q0=q:=⟨_,rfl⟩
  have hqs:q<=s.size:=by rw[<-hq,<-(Xo1 H)];exact Q2r (by have:=(Xo1 H);have:=h1.2.2;omega)
  obtain ⟨c,hc⟩:∃c,Q09 L q=c:=⟨_,rfl⟩
  have hXX:X=if c=94 then
   (if 48<=(Q09 L (Q07 L (q+1))).toNat/\(Q09 L (Q07 L (q+1))).toNat<=56 then .ok (.pow x ((Q09 L (Q07 L (q+1))).toNat-48),Q07 L (q+1)+1) else .error (Q07 L (q+1)))
   else .ok (x,q):=by
   have h:=(Xo4 H)
   unfold Qba at h
   simp only[hq,hc] at h
   exact h.symm
  have hsg:=Q30 h1.2.1 h1.2.2 (Xo2 H)
  rw[(Xo0 H)] at hsg
  simp only[skS,nxB,Bool.false_eq_true,if_false,hq,hc] at hsg
  have hw1:IntKind.i64.wrap ((q:Int)+1)=(q:Int)+1:=by rw[IntKind.wrap_i64];have:=(Xo2 H);omega
  by_cases h94:c=94
  ·subst h94
   have n94:((((94:UInt8).toNat:Nat):Int) != 94)=false:=by decide
   obtain ⟨q2,hq2⟩:∃q2,Q07 L (q+1)=q2:=⟨_,rfl⟩
   have hq1s:q+1<=s.size:=by have:=Q0i hc (by decide);have:=(Xo1 H);omega
   have hq2s:q2<=s.size:=by rw[<-hq2,<-(Xo1 H)];exact Q2r (by have:=(Xo1 H);omega)
   have hs2:=fun W (hW:Q0p W R s ((q+1:Nat):Int) (most:Int) d false)=>Q30 hW hq1s (Xo2 H)
   rw[(Xo0 H)] at hs2
   simp only[skS,Bool.false_eq_true,if_false,hq2] at hs2
   rw[if_pos rfl,hq2] at hXX
   have H2:=Xh5 hsg h1.1 hs2 hq2s hXX
   clear hsg h1 hs2 hq2 hq1s hq2s hXX hq hc hqs
   go_upto_region 4 with (go_at_call_of 81 (Value.pointer (some ⟨R,0,none⟩));refine (Xo0 H2).mono ?_;rintro r w2 ⟨rfl,hr2,ht2⟩;have k1:=hr2.c1;have g1:=hr2.f1;have H3:=Xh2 (hr2.setAt ((q:Int)+1)) (ht2.trans0 (Q1s w2 R 1 (.int .i64 ((q:Int)+1))));clear hr2 ht2)
   go_upto_region 6 with (go_at_call_of 81 (Value.pointer (some ⟨R,0,none⟩));refine ((Xo2 H2) _ (show Q0p _ R s (((q+1:Nat)):Int) (most:Int) d false from (Xo0 H3))).mono ?_;rintro r w3 ⟨rfl,hr3,ht3⟩;have H4:=Xh2 hr3 ((Xe1 H3).trans0 ht3);clear hr3 ht3)
   go_wp2_with (go_at_call_of 192 (Value.pointer (some ⟨R,0,none⟩));refine (Qcu (Xo0 H4) (Xo3 H2) (Xo2 H) 0 8 (by decide)).mono ?_;rintro r w4 ⟨hor,ht4⟩;obtain ⟨z,hz⟩:∃z:Int,r=.returned (.int .i64 z):=by { rcases hor with ⟨_,_,_,h,_⟩|⟨_,h,_⟩ <;> exact ⟨_,h⟩ };subst hz;have H5:=Xh2 hor ((Xe1 H4).trans0 ht4);clear hor ht4)
   go_ret
   obtain ⟨hor,ht⟩:=H5.out
   rw[(Xo0 H)] at hor
   have hxw:=Qfz (Xo1 H2) ht (Xe5 H)
   have htw:=(Xo0 H1).trans0 ht
   rcases hor with ⟨_,h1,h2,h3,h4⟩|⟨h1,h3,h4⟩
   ·injection h3 with h3
    injection h3 with _ h3
    subst h3
    rw[(Xe4 H2),if_pos ⟨by omega,by omega⟩]
    refine Q5u.okd htw ?_ h4 ?_
    ·rw[Q2k]
     refine ⟨_,congrArg (fun z=>Value.iface _ (.agg #[_,.int .i64 z])) (by omega),hxw⟩
    ·have h5:Q09 L q2≠0:=fun e=>by rw[e] at h1;exact absurd h1 (by decide)
     have:=Q5g h5;have:=(Xo1 H);omega
   ·rw[(Xe4 H2),if_neg (fun h=>h1 ⟨trivial,by omega,by omega⟩)]
    exact Q5u.err htw h4 (Xo3 H2)
  ·have n93:((c.toNat:Int)==94)=false:=Qb9 (k:=94) (by decide) h94
   have n94:((c.toNat:Int) != 94)=true:=by rw[bne,n93];rfl
   rw[if_neg h94] at hXX
   have H2:=Xh4 hsg h1.1 hXX hqs
   clear hsg h1 hXX hqs hq hc h94
   go_wp2_with (go_at_call_of 81 (Value.pointer (some ⟨R,0,none⟩));refine (Xo0 H2).mono ?_;rintro r w2 ⟨rfl,hr2,ht2⟩;have H3:=Xh2 hr2 ht2;clear hr2 ht2)
   go_ret
   rw[(Xo2 H2)]
   exact Q5u.okd ((Xo0 H1).trans0 (Xe1 H3)) (Qfz (Xo1 H2) (Xe1 H3) (Xe5 H)) (Xo0 H3) (Xe3 H2)
theorem Qg0:(Tryz.prog.info? 82).map (fun i=>(i.zero,i.size,i.bytes))=some (some .nilIface,1,16):=by kernel_rfl
theorem Qpn:(Tryz.prog.info? 4).map (fun i=>(i.zero,i.size,i.bytes))=some (some (.bool false),1,1):=by kernel_rfl
theorem Q0t {T:TypeId} {z:Value} {s b:Nat} (h:(Tryz.prog.info? T).map (fun i=>(i.zero,i.size,i.bytes))=some (some z,s,b)):∃i0:TypeInfo,Tryz.prog.info? T=some i0/\i0.zero=some z/\i0.size=s/\i0.bytes=b:=by
 cases hi:Tryz.prog.info? T with
 |none=>rw[hi] at h;cases h
 |some i0=>
  rw[hi] at h
  simp only[Option.map_some,Option.some.injEq,Prod.mk.injEq] at h
  exact ⟨i0,rfl,h.1,h.2.1,h.2.2⟩
theorem Q0p.keep {w w':World} {R:Nat} {s:ByteArray} {p m d:Int} {bad:Bool} {fp:Nat->Prop} (h:Q0p w R s p m d bad) (ht:Q0n fp w w') (hn:¬fp R):Q0p w' R s p m d bad:=
 ⟨(ht.cell (p:=⟨R,0,none⟩) h.lt hn).trans h.c0,(ht.cell (p:=⟨R,1,none⟩) h.lt hn).trans h.c1,(ht.cell (p:=⟨R,2,none⟩) h.lt hn).trans h.c2,(ht.cell (p:=⟨R,3,none⟩) h.lt hn).trans h.c3,(ht.cell (p:=⟨R,4,none⟩) h.lt hn).trans h.c4,
   (ht.frozen (p:=⟨R,0,none⟩) h.lt hn).trans h.f0,(ht.frozen (p:=⟨R,1,none⟩) h.lt hn).trans h.f1,(ht.frozen (p:=⟨R,2,none⟩) h.lt hn).trans h.f2,(ht.frozen (p:=⟨R,3,none⟩) h.lt hn).trans h.f3,(ht.frozen (p:=⟨R,4,none⟩) h.lt hn).trans h.f4,Nat.lt_of_lt_of_le h.lt ht.size,fun o ho=>(ht.cell (p:=⟨R,o,none⟩) h.lt hn).trans (h.c5 o ho)⟩
def fpR (b:Nat) (a:Option Addr) (k:Nat):Prop:=k<=b∨∃x,a=some x/\x.block=k
structure Q5n (R:Nat) (w wr:World) (a:Option Addr) (n c:Nat) (acc:List Ex) (vs:List Value):Prop where
 turn:Q0n (OnR R) w wr
 cell:wr.cell? ⟨w.heap.size,0,none⟩=some (.slice a n c)
 frz:wr.frozen? ⟨w.heap.size,0,none⟩=false
 row:Row wr (w.heap.size+1) 82 1 a n c vs
 nodes:Q12 (fpR w.heap.size a) wr acc vs
 len:acc.length=n
theorem Q5n.lt {R:Nat} {w wr:World} {a:Option Addr} {n c:Nat} {acc:List Ex} {vs:List Value} (h:Q5n R w wr a n c acc vs):w.heap.size<wr.heap.size:=block_lt_of_cell h.cell
theorem Q5n.step {R:Nat} {w wr w':World} {a:Option Addr} {n c:Nat} {acc:List Ex} {vs:List Value} (h:Q5n R w wr a n c acc vs) (hR:R<w.heap.size) (ht:Q0n (OnR R) wr w'):Q5n R w w' a n c acc vs:=
 ⟨h.turn.trans0 ht,(ht.cell (p:=⟨w.heap.size,0,none⟩) h.lt (fun (e:w.heap.size=R)=>by omega)).trans h.cell,(ht.frozen (p:=⟨w.heap.size,0,none⟩) h.lt (fun (e:w.heap.size=R)=>by omega)).trans h.frz,
   h.row.turn ht (fun x hx (e:x.block=R)=>by
    rcases h.row.form with ⟨h0,_⟩|⟨g,cur,h0,h1,_⟩
    ·rw[h0] at hx;cases hx
    ·rw[h0] at hx;injection hx with hx;subst hx
     have e:g=R:=e
     omega),h.nodes.turn ht (fun k (hk:k=R)=>by subst hk;exact .inl (Nat.le_of_lt hR)),h.len⟩
theorem Qg1 {R:Nat} {w w3 w4:World} {a:Option Addr} {n c:Nat} {acc:List Ex} {vs:List Value} (h:Q5n R w w3 a n c acc vs) {o:Obj} (hgr:(w3.alloc o).grownBy w4 (Value.slice a n c).ownBlock) (v:Value):
 Q0n (fun k=>k=w.heap.size∨∃x,a=some x/\x.block=k) w3 (w4.setCell ⟨w.heap.size,0,none⟩ v):=by
 have h1:Q0n (fun k=>k=w.heap.size∨∃x,a=some x/\x.block=k) w3 (w3.alloc o):=Q0n.of_below ((Below.refl _ _).alloc (Nat.le_refl _) _) _
 have h2:Q0n (fun k=>k=w.heap.size∨∃x,a=some x/\x.block=k) (w3.alloc o) w4:=Q0n.of_grown hgr fun r hr _=>by
  cases a with
  |none=>simp[Value.ownBlock] at hr
  |some x=>
   simp only[Value.ownBlock,Option.some.injEq] at hr
   exact .inr ⟨x,rfl,hr⟩
 exact (h1.trans0 h2).trans0 (Q0n.setCell _ _ (p:=⟨w.heap.size,0,none⟩) (.inl rfl) _)
theorem Q1i {w:World} {B:Nat} {T:TypeId} {a:Option Addr} {n c:Nat} {vs:List Value} (h:Row w B T 1 a n c vs) {x:Addr} (hx:a=some x):B<=x.block/\x.block<w.heap.size:=by
 rcases h.form with ⟨h0,_⟩|⟨g,cur,h0,h1,h2,_⟩
 ·rw[h0] at hx;cases hx
 ·rw[h0] at hx;injection hx with hx;subst hx;exact ⟨h1,h2⟩
theorem Qpo {R:Nat} {w wr w3 w4:World} {a:Option Addr} {n c:Nat} {acc:List Ex} {vs:List Value} (hR:R<w.heap.size) (hr:Q5n R w wr a n c acc vs) (ht:Q0n (OnR R) wr w3) {o:Obj} (hgr:(w3.alloc o).grownBy w4 (Value.slice a n c).ownBlock) {g cap:Nat} {x:Ex} {v:Value} (hx:Q2k (·<wr.heap.size) w3 x v)
 (hrow:Row w4 (w.heap.size+1) 82 1 (some ⟨g,0,none⟩) (n+1) cap (vs++[v])) (hat:(Value.slice a n c).ownBlock=some g∨g=w3.heap.size+1) (hfz:w4.frozen? ⟨w.heap.size,0,none⟩=false) (hcl:∃u,w4.cell? ⟨w.heap.size,0,none⟩=some u):
 Q5n R w (w4.setCell ⟨w.heap.size,0,none⟩ (.slice (some ⟨g,0,none⟩) (n+1) cap)) (some ⟨g,0,none⟩) (n+1) cap (acc++[x]) (vs++[v]):=by
 have h:=hr.step hR ht
 have htt:=Qg1 h hgr (.slice (some ⟨g,0,none⟩) (n+1) cap)
 have hfb:∀k,(k=w.heap.size∨∃x,a=some x/\x.block=k)->fpR w.heap.size a k:=fun k hk=>hk.elim (fun e=>.inl (Nat.le_of_eq e)) .inr
 have hmore:∀k,fpR w.heap.size (some ⟨g,0,none⟩) k->fpR w.heap.size a k∨w3.heap.size<=k:=by
  rintro k (hk|⟨y,hy,hk⟩)
  ·exact .inl (.inl hk)
  ·injection hy with hy
   subst hy
   have hk:g=k:=hk
   subst hk
   rcases hat with h1|h1
   ·cases a with
    |none=>simp[Value.ownBlock] at h1
    |some z=>
     simp only[Value.ownBlock,Option.some.injEq] at h1
     exact .inl (.inr ⟨z,rfl,h1⟩)
   ·exact .inr (by omega)
 have hgb:=hrow.fresh
 refine ⟨h.turn.trans htt fun k hk hf=>?_,?_,?_,?_,?_,?_⟩
 ·exfalso
  rcases hf with rfl|⟨y,hy,rfl⟩
  ·omega
  ·have:=Q1i h.row hy;omega
 ·obtain ⟨u,hu⟩:=hcl
  exact World.cell?_setCell_same' _ _ _ (by rw[hu];rfl)
 ·exact (World.frozen?_setCell _ _ _ _).trans hfz
 ·exact hrow.far (p:=⟨w.heap.size,0,none⟩) (fun y hy=>by injection hy with hy;subst hy;show g≠w.heap.size;omega) _
 ·have hU:∀k,(fpR w.heap.size a k∨fpR w.heap.size (some ⟨g,0,none⟩) k)->fpR w.heap.size a k∨w3.heap.size<=k:=fun k hk=>hk.elim .inl (hmore k)
  have hA:∀k,fpR w.heap.size a k->k<wr.heap.size:=by
   rintro k (hk|⟨y,hy,rfl⟩)
   ·exact Nat.lt_of_le_of_lt hk hr.lt
   ·exact (Q1i hr.row hy).2
  have hn1:=((h.nodes.more hU).turn htt (fun k hk=>.inl (hfb k hk))).more (fp':=fpR w.heap.size (some ⟨g,0,none⟩)) (fun k hk=>.inl (.inr hk))
  have h1:=((hx.more (fp':=fun k=>fpR w.heap.size a k∨fpR w.heap.size (some ⟨g,0,none⟩) k) fun k hk=>(hU k hk).imp (hA k) id).turn htt (fun k hk=>.inl (hfb k hk))).more (fp':=fpR w.heap.size (some ⟨g,0,none⟩)) (fun k hk=>.inl (.inr hk))
  exact hn1.snoc h1
 ·rw[List.length_append,h.len];rfl
def Qpp (R:Nat) (s:ByteArray) (m d:Int) (w:World) (n:Nat) (acc:List Ex) (vs:List Value) (r0:PR Ex) (wx:World):Prop:=
 ∃g cap t u,wx.cell? ⟨w.heap.size,0,none⟩=some (.slice (some ⟨g,0,none⟩) (n+1) cap)/\Q0n (OnR R) w wx/\match r0 with
  | .ok (x,q)=>Q5n R w wx (some ⟨g,0,none⟩) (n+1) cap (acc++[x]) (vs++[.iface t u])/\Q0p wx R s (q:Int) m d false/\q<=s.size
  | .error q=>Q0p wx R s (q:Int) m d true/\q<=s.size
theorem Qs6 {R:Nat} {s:ByteArray} {m d:Int} {w wr w3 w4:World} {a:Option Addr} {n c:Nat} {acc:List Ex} {vs:List Value} {r0:PR Ex} {e:Ending} {t:TypeId} {u:Value} (hR:R<w.heap.size) (hr:Q5n R w wr a n c acc vs) (hN:Q5u R s m d r0 wr e w3) (he:e=.returned (.iface t u)) {o:Obj} (hgr:(w3.alloc o).grownBy w4 (Value.slice a n c).ownBlock) {g cap:Nat}
 (hrow:Row w4 (w.heap.size+1) 82 1 (some ⟨g,0,none⟩) (n+1) cap (vs++[.iface t u])) (hat:(Value.slice a n c).ownBlock=some g∨g=w3.heap.size+1) (hfz:w4.frozen? ⟨w.heap.size,0,none⟩=false) (hcl:w4.cell? ⟨w.heap.size,0,none⟩=some (.slice a n c)):
 Qpp R s m d w n acc vs r0 (w4.setCell ⟨w.heap.size,0,none⟩ (.slice (some ⟨g,0,none⟩) (n+1) cap)):=by
 subst he
 obtain ⟨t',u',he,ht,h2⟩:=hN
 injection he with he
 injection he with e1 e2
 subst e1;subst e2
 have hs3:=hr.step hR ht
 have htt:=Qg1 hs3 hgr (.slice (some ⟨g,0,none⟩) (n+1) cap)
 have hnR:¬(R=w.heap.size∨∃x,a=some x/\x.block=R):=by
  rintro (h|⟨y,hy,h⟩)
  ·omega
  ·have:=Q1i hs3.row hy;omega
 have hfw:Q0n (OnR R) w (w4.setCell ⟨w.heap.size,0,none⟩ (.slice (some ⟨g,0,none⟩) (n+1) cap)):=hs3.turn.trans htt fun k hk hf=>by
  exfalso
  rcases hf with rfl|⟨y,hy,rfl⟩
  ·omega
  ·have:=Q1i hs3.row hy;omega
 refine ⟨g,cap,t,u,World.cell?_setCell_same' _ _ _ (by rw[hcl];rfl),hfw,?_⟩
 cases r0 with
 |error q=>exact ⟨h2.1.keep htt hnR,h2.2⟩
 |ok z=>exact ⟨Qpo hR hr ht hgr h2.1 hrow hat hfz ⟨_,hcl⟩,h2.2.1.keep htt hnR,h2.2.2⟩
theorem Qma (sub:Nat->PR Ex) (opens:Bool) (L:List UInt8) (most f p:Nat) (acc:List Ex) (bad:Bool):Q44 bad p (Q38 sub opens L most (f+1) p acc)=(match Q44 bad p (Q1r sub opens L most p) with
 | .error e=>.error e
 | .ok (x,q)=>if Q09 L (Q07 L q)=42 then Q38 sub opens L most f (Q07 L q+1) (acc++[x]) else .ok (.prod (acc++[x]),Q07 L q)):=by
 cases bad
 ·show Q38 sub opens L most (f+1) p acc=_
  rw[Q38];rfl
 ·rfl
theorem Quf {R:Nat} {w w':World} {g n c:Nat} {acc:List Ex} {vs:List Value} (h:Q5n R w w' (some ⟨g,0,none⟩) n c acc vs) (h0:acc≠[]):Q2k (·<w.heap.size) w' (.prod acc) (.iface 133 (.agg #[.slice (some ⟨g,0,none⟩) n c])):=by
 have hlow:∀k,k<w.heap.size->fpR w.heap.size (some ⟨g,0,none⟩) k∨w'.heap.size<=k:=fun k hk=>.inl (.inl (Nat.le_of_lt hk))
 have hg:=Q1i h.row rfl
 have hc:=h.row.cap
 have hg1:w.heap.size+1<=g:=hg.1
 rw[Q2k]
 refine ⟨g,c,by rw[h.len],fun hk=>by omega,hg.2,by rw[h.len];exact hc.1,hc.2,h0,(h.nodes.more hlow).row 0 fun j v hv=>?_⟩
 obtain ⟨g',e,_,_,hcell⟩:=h.row.at_ hv
 injection e with e
 injection e with e
 subst e
 rw[Nat.zero_add];exact hcell
theorem Qbb {fp:Nat->Prop} {w w':World} (h:Q0n fp w.drew w'):Q0n fp w w':=⟨h.os,h.tape,h.output,h.size,h.block⟩
theorem Qs7 {w:World} {R:Nat} {s:ByteArray} {p most:Nat} {d:Int} {bad:Bool} (sub:Nat->PR Ex) (h:Q0p w R s (p:Int) (most:Int) d bad) (hp:p<=s.size) (hs:s.size<=1000000) (hd0:0<=d) (hd:d<=16) (hT:∀W,Q0n (OnR R) w W->Q24 W) (hmv:decide (d<16)=true->∀p,p<=s.data.toList.length->Q5h s.data.toList p (sub p))
 (hsub:d<16->∀(W:World) (q:Nat),Q0p W R s (q:Int) (most:Int) (d+1) false->q<=s.size->(∀W',Q0n (OnR R) W W'->Q24 W')->Calls Tryz.prog 80 #[.pointer (some ⟨R,0,none⟩)] W (Q5u R s (most:Int) (d+1) (sub q) W)):
 Calls Tryz.prog 133 #[.pointer (some ⟨R,0,none⟩)] w (Q5u R s (most:Int) d (Q44 bad p (Q38 sub (decide (d<16)) s.data.toList most (s.size+1) p [])) w):=by
 obtain ⟨i0,hi0,hz0,hz1,hz2⟩:=Q0t Qg0
 obtain ⟨L,hL⟩:∃L,s.data.toList=L:=⟨_,rfl⟩
 have hLs:L.length=s.size:=by rw[<-hL];rfl
 rw[hL]
 obtain ⟨X,hX⟩:∃X,Q44 bad p (Q38 sub (decide (d<16)) L most (s.size+1) p [])=X:=⟨_,rfl⟩
 rw[hX]
 have hR:=h.lt
 have hal:Below w.heap.size w (w.alloc (.cells #[.slice none 0 0] 133)):=(Below.refl _ _).alloc (Nat.le_refl _) _
 have hst:Q5n R w (w.alloc (.cells #[.slice none 0 0] 133)) none 0 0 [] []:=
  ⟨Q0n.of_below hal _,by rw[cell_of_row _ _ _ _ _ _ (heap_alloc_new _ _)];rfl,frozen_of_row _ _ _ _ _ (heap_alloc_new _ _),Row.nil_ _ _ _ _,trivial,rfl⟩
 have H:=Xh7 hL hLs hs hX hR hst (h.step hal)
 have HS:=Xh4 hd0 hd hT hsub
 rw[hL] at hmv
 have HP:=Xh2 hp hmv
 clear h hp hs hT hsub hmv hL hLs hd0 hd hX hR hst hal
 go_enter Tryz.func133,Tryz.ntmps133
 go_wp2_with fail
 go_step3
 go_wp2_with fail
 go_step3
 go_wp2_with fail
 go_loopw [] (fun wr=>∃(f p':Nat) (bd:Bool) (a:Option Addr) (n c:Nat) (acc:List Ex) (vs:List Value),Q5n R w wr a n c acc vs/\Q0p wr R s (p':Int) (most:Int) d bd/\p'<=s.size/\s.size+1<=f+p'/\n<=p'/\X=Q44 bd p' (Q38 sub (decide (d<16)) L most f p' acc)) (fun wr=>s.size-atOf wr R)
 case atStart=>exact ⟨s.size+1,p,bad,none,0,0,[],[],(Xo5 H),(Xe6 H),(Xo0 HP),by omega,Nat.zero_le _,(Xo3 H).symm⟩
 case round=>
  obtain ⟨f,p',bd,a,n,c,acc,vs,hst,hr,hp',hf,hn,hXX⟩:=hrel
  obtain ⟨f,rfl⟩:∃f',f=f'+1:=⟨f-1,by omega⟩
  rw[Qma] at hXX
  have hfa:=Qm9 sub hr.drew hp' (by have:=(Xo2 H);omega) (Xo0 HS) (Xo1 HS) (fun W hW=>(Xo2 HS) W (hst.turn.trans0 (Qbb hW))) (Xe3 HS)
  rw[(Xo0 H)] at hfa
  obtain ⟨r0,hr0⟩:∃r0,Q44 bd p' (Q1r sub (decide (d<16)) L most p')=r0:=⟨_,rfl⟩
  rw[hr0] at hfa hXX
  have hgo:∀x q0,r0=.ok (x,q0)->p'<q0:=fun x q0 e=>by
   rw[e] at hr0
   cases bd with
   |true=>cases hr0
   |false=>
    have hm:=Q9e (most:=most) (Xe1 HP) (p:=p') (by have:=(Xo1 H);omega)
    have hr1:Q1r sub (decide (d<16)) L most p'=.ok (x,q0):=hr0
    rw[hr1] at hm
    exact hm.1
  have HG:=Lib.hid hgo
  have hk0:=hst.cell
  have hkd:wr.drew.cell? ⟨w.heap.size,0,none⟩=some (.slice a n c):=hk0
  have hsz:s.size<=1000000:=(Xo2 H)
  have hn1:n+1<=1000001:=by omega
  have HF:=Xh7 hfa hst hr hp' hf hn hXX
  clear hfa hst hr hp' hf hXX hr0 hn hsz hgo
  go_upto_region 2 with fail
  go_cut [] (fun wx=>Qpp R s (most:Int) d w n acc vs r0 wx)
  case first=>
   go_region_law (first
    |(refine Q2x (by rfl) 164 #[.pointer (some ⟨R,0,none⟩)] (by simp[go_sem]) ?_;refine (Xo0 HF).mono ?_;rintro e w3 ⟨t,u,rfl,hN0⟩;refine ⟨_,rfl,?_⟩;(have hN:Q5u R s (most:Int) d r0 wr (.returned (.iface t u)) w3:=⟨t,u,rfl,Qbb hN0.1,hN0.2⟩);(have hs3:=(Xo1 HF).step (Xo4 H) (Qbb hN0.1));(have q0:=hs3.cell);(have qa:(w3.alloc (.cells #[.iface t u] 82)).cell? ⟨w.heap.size,0,none⟩=some (.slice a n c):=(World.cell?_alloc_lt _ _ _ hs3.lt).trans q0);(have row3:=hs3.row.alloc (.cells #[.iface t u] 82));(have hlt3:=hs3.lt);(have hfz3:=hs3.frz);(have H3:=Xh2 hN hs3);clear hN hN0 hs3)
    |(refine step_append_lies _ (by rfl) _ _ _ (by rfl) (w.heap.size+1) 82 i0 _ 1 16 Tryz.underlying127 hi0 hz0 hz1 hz2 rfl (by omega) (.slice a n c) n vs (by rfl) row3 ⟨w3.heap.size,0,none⟩ 1 1 [.iface t u] (by rfl) (by rfl) (World.news_of_block (cs:= #[.iface t u]) (t:=82) (fr:=(0,0)) (heap_alloc_new w3 _)) (by simp[Value.oneCell']) (by omega) (by unfold maxLen;omega) (by omega) (by rw[World.size_alloc];omega) (w3.heap.size+1) (by simp) ?_;intro g cap w4 hrow4 hgrow hat hltg;(have hne:some w.heap.size≠(Value.slice a n c).ownBlock:=by { intro e;cases a with|none=>simp[Value.ownBlock] at e|some y=>{ simp only[Value.ownBlock,Option.some.injEq] at e;have:=Q1i row3 rfl;omega } });(have c4:=(hgrow.cell_far ⟨w.heap.size,0,none⟩ (by rw[World.size_alloc];exact Nat.lt_succ_of_lt hlt3) hne).trans qa);(have f4:w4.frozen? ⟨w.heap.size,0,none⟩=false:=(World.frozen?_of_block (hgrow.block _ (by rw[World.size_alloc];exact Nat.lt_succ_of_lt hlt3) hne)).trans ((World.frozen?_of_block (((Below.refl w3.heap.size w3).alloc (Nat.le_refl _) _).block _ hlt3)).trans hfz3));(have hcut0:=Qs6 (Xo4 H) (Xo1 HF) (Xo0 H3) rfl hgrow hrow4 hat f4 c4);(have H4:=Lib.hid hcut0);clear hcut0 hgrow hrow4 hat))
   all_goals go_wp2_with fail
   all_goals go_meet
   all_goals exact H4.out
  case rest=>
   obtain ⟨g,cap,t,u,hk,htw,h2⟩:=hcut
   have HK:=Xh2 htw h2
   have hX:=(Xe6 HF)
   clear htw h2 hkd
   cases r0 with
   |error e=>
    have h1:=(Xe1 HK)
    have hsg:=Q30 h1.1 h1.2 (by have:=(Xo2 H);omega)
    simp only[skS,nxB,if_true] at hsg
    have H2:=Xh3 hsg h1.2 hX
    clear hsg h1 hX
    have n42:((((0:UInt8).toNat:Nat):Int)==42)=false:=by decide
    go_wp2_with (go_at_call_of 81 (Value.pointer (some ⟨R,0,none⟩));refine (Xo0 H2).mono ?_;rintro r w2 ⟨rfl,hr2,ht2⟩;have k2:=(ht2.cell (p:=⟨w.heap.size,0,none⟩) (block_lt_of_cell hk) (fun (e:w.heap.size=R)=>by have:=(Xo4 H);omega)).trans hk;have H3:=Xh2 hr2 ht2;clear hr2 ht2)
    first|rw[Exit.noGoto_ret]|skip
    go_ret
    rw[(Xe2 H2)]
    exact Q5u.err ((Xo0 HK).trans0 (Xe1 H3)) (Xo0 H3) (Xo1 H2)
   |ok z=>
    obtain ⟨x,q0⟩:=z
    have h1:=(Xe1 HK)
    obtain ⟨q,hq⟩:∃q,Q07 L q0=q:=⟨_,rfl⟩
    have hqs:q<=s.size:=by rw[<-hq,<-(Xo1 H)];exact Q2r (by have:=(Xo1 H);have:=h1.2.2;omega)
    obtain ⟨c,hc⟩:∃c,Q09 L q=c:=⟨_,rfl⟩
    have hXX:X=if c=42 then Q38 sub (decide (d<16)) L most f (q+1) (acc++[x]) else .ok (.prod (acc++[x]),q):=by
     rw[hX]
     simp only[hq,hc]
    have hsg:=Q30 h1.2.1 h1.2.2 (by have:=(Xo2 H);omega)
    rw[(Xo0 H)] at hsg
    simp only[skS,nxB,Bool.false_eq_true,if_false,hq,hc] at hsg
    have hq0:p'<q:=by have:=HG.out x q0 rfl;have:=Q5a L q0;omega
    have hw1:IntKind.i64.wrap ((q:Int)+1)=(q:Int)+1:=by rw[IntKind.wrap_i64];have:=(Xo2 H);omega
    by_cases h42:c=42
    ·subst h42
     have hq1:q+1<=s.size:=by have:=Q0i hc (by decide);have:=(Xo1 H);omega
     rw[if_pos rfl] at hXX
     have n42:((((42:UInt8).toNat:Nat):Int)==42)=true:=by decide
     have H2:=Xh5 hsg h1.1 hXX hq1 hq0
     clear hsg h1 hXX hX hq1 hq0 hq hc hqs
     go_wp2_with (go_at_call_of 81 (Value.pointer (some ⟨R,0,none⟩));refine (Xo0 H2).mono ?_;rintro r w2 ⟨rfl,hr2,ht2⟩;have k1:=hr2.c1;have g1:=hr2.f1;have H3:=Xh2 hr2 ht2;clear hr2 ht2)
     have hr4:Q0p (w2.setCell ⟨R,1,none⟩ (.int .i64 ((q:Int)+1))) R s ((q+1:Nat):Int) (most:Int) d false:=(Xo0 H3).setAt ((q:Int)+1)
     refine ⟨⟨f,q+1,false,_,n+1,cap,acc++[x],vs++[.iface t u],((Xo1 H2).step (Xo4 H) (Xe1 H3)).step (Xo4 H) (Q1s w2 R 1 (.int .i64 ((q:Int)+1))),hr4,(Xo3 H2),?_,?_,(Xo2 H2)⟩,?_⟩
     ·have:=(Xo4 HF);have:=(Xe4 H2);omega
     ·have:=(Xo5 HF);have:=(Xe4 H2);omega
     ·rw[hr4.atOf,(Xo2 HF).atOf]
      have:=(Xo3 H2);have:=(Xe4 H2);omega
    ·rw[if_neg h42] at hXX
     have n42:((c.toNat:Int)==42)=false:=Qb9 (k:=42) (by decide) h42
     have H2:=Xh4 hsg h1.1 hXX hqs
     clear hsg h1 hXX hX hqs hq0 hq hc h42
     go_wp2_with (go_at_call_of 81 (Value.pointer (some ⟨R,0,none⟩));refine (Xo0 H2).mono ?_;rintro r w2 ⟨rfl,hr2,ht2⟩;have k2:=(ht2.cell (p:=⟨w.heap.size,0,none⟩) (block_lt_of_cell hk) (fun (e:w.heap.size=R)=>by have:=(Xo4 H);omega)).trans hk;have H3:=Xh2 hr2 ht2;clear hr2 ht2)
     first|rw[Exit.noGoto_ret]|skip
     go_ret
     rw[(Xo2 H2)]
     have hs3:=(Xo1 H2).step (Xo4 H) (Xe1 H3)
     refine Q5u.okd ((Xo0 HK).trans0 (Xe1 H3)) ?_ (Xo0 H3) (Xe3 H2)
     exact Quf hs3 (by simp)
end Go.Proofs.YtdilmfakkppgpaaGreatDoor
