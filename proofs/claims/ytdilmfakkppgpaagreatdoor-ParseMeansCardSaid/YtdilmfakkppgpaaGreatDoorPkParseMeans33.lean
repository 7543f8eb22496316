/- Part 33 of the proof of LawParseMeans: RefMake, DeckP, DeckQ, DeckR, DeckS, DeckB, MeansM. Condition: as each theorem says; none at the end. -/
import Derived.Test.YtdilmfakkppgpaaGreatDoorPkParseMeans32
set_option maxRecDepth 100000
set_option maxHeartbeats 16000000
namespace Go.Proofs.YtdilmfakkppgpaaGreatDoor
open Go.RowKit WordsM
theorem Qgy:Tryz.prog.underlying 142=some (.slice 144):=by kernel_rfl
theorem Qjd (W:World) (v0 v1 v2 v3:Value):(Instr.buildSlice 142 1 #[(0,.agg #[v0,v1,v2,v3])]).run Tryz.prog W=.ok (.slice (some ⟨W.heap.size,0,none⟩) 1 1) (W.alloc (.cells #[v0,v1,v2,v3] 144)):=by
 obtain ⟨i0,hi0,hz0,hz1,hz2⟩:=Q0t Qgr
 exact run_buildSlice W 142 144 1 _ #[v0,v1,v2,v3] i0 _ Qgy hi0 hz0 (by rw[hz1];decide) (by rw[hz1];decide) (by rw[hz1];first|kernel_rfl|simp[Instr.fill,Value.cells])
def Qw8 (w:World) (p:Q0b) (v:Value) (W:World):Prop:=∃v0 v1 v2 v3,v=.agg #[v0,v1,v2,v3]/\Q5c w W [p] [v0,v1,v2,v3]
def Qqo (w:World) (p:Q0b) (v:Value) (W:World):Prop:=∃bl lit,v=.slice (some ⟨bl,0,none⟩) 1 1/\bl<W.heap.size/\W.heap[bl]?=some (.cells lit.toArray 144 (0,0))/\Q5c w W [p] lit
theorem Qgz (w:World) (p:Q0b):Q1u (Qw8 w p):=fun _ _ _ ⟨v0,v1,v2,v3,h1,h2⟩ hb=>⟨v0,v1,v2,v3,h1,h2.keep fun h=>h.step hb⟩
theorem Qe9 (w:World) (p:Q0b):Q1u (Qqo w p):=fun _ _ _ ⟨bl,lit,h1,h2,h3,h4⟩ hb=>⟨bl,lit,h1,Nat.lt_of_lt_of_le h2 hb.size,(hb.block bl h2).trans h3,h4.keep fun h=>h.step hb⟩
theorem Qqp {w U W:World} {a:Option Addr} {i c:Nat} {out:List Q0b} {xs:List Value} (hst:Q4c w U a i c out xs) (hb:Below U.heap.size U W) {p:Q0b} {v:Value} (hv:Qqo w p v W) (hi:i<=1000) (ty:TypeId):
 ∃a' c' W' xs',(Builtin.append_ #[142,142] ty #[.slice a i c,v]).run Tryz.prog W=.ok (.slice a' (i+1) c') W'/\Q4c w W' a' (i+1) c' (out++[p]) xs':=by
 obtain ⟨bl,lit,rfl,hbl,hcs,henc⟩:=hv
 obtain ⟨h1,h2,h3,h4⟩:=hst.step hb
 have hll:lit.length=4:=by rw[henc.len];rfl
 obtain ⟨a8,c8,w8,hrun8,hrow8,hgr8,hat8⟩:=Q53 ty W w.heap.size h4.size a i c xs h2 (some ⟨bl,0,none⟩) 1 1 lit (by rw[hll]) (.inr ⟨_,rfl,fun j u hj=>by
  rw[Addr.add_lit,Nat.zero_add,cell_of_row _ _ _ _ _ _ hcs]
  simpa using hj⟩) (fun u hu=>henc.one u hu) (by omega)
 refine ⟨a8,c8,w8,_,hrun8,by rw[List.length_append,h1];rfl,hrow8,Q5c.app (henc.keep (fun h=>h2.grownD hgr8 h)) (h3.keep (fun h=>h2.grownD hgr8 h)),?_⟩
 exact h4.trans ⟨hgr8.os,hgr8.tape,hgr8.output,hgr8.size,fun z hz=>hgr8.block z (Nat.lt_of_lt_of_le hz h4.size) (fun e=>by
  cases a with
  |none=>simp at e
  |some q=>simp only[Option.map_some,Option.some.injEq] at e;have:=(Q1x.lt.row2_blk h2.1 rfl).1;omega)⟩
theorem Q4c.terms {w W:World} {a:Option Addr} {n c:Nat} {ts:List Q0b} {xs:List Value} (h:Q4c w W a n c ts xs):Qql W a n c ts:=by
 obtain ⟨h1,h2,h3,h4⟩:=h
 have hcap:=h2.1.cap
 refine ⟨h1,hcap.1,by have:=hcap.2;simpa[maxLen] using this,?_⟩
 rcases h2.1.form with ⟨_,h0,_⟩|⟨g,cur,rfl,_,hlt,_⟩
 ·exact .inl (List.eq_nil_of_length_eq_zero (by rw[h1];exact h0))
 ·refine .inr ⟨g,0,rfl,hlt,xs,h3.old fun h=>h.step h4,fun j u hj=>?_⟩
  rw[Nat.zero_add]
  exact h2.1.cell0 hj
theorem Q2t.pair {w w':World} {X:Except Int (List Q0b)} {r:Ending} (h:Q2t w X r w'):∃x er,r=.returned (.tuple #[x,.int .i64 er]):=by
 obtain ⟨_,h⟩:=h
 cases X with
 |error e=>exact ⟨_,_,h⟩
 |ok P=>obtain ⟨a,n,c,ms,h,_⟩:=h;exact ⟨_,_,h⟩
theorem Q2t.from_ {w0 w w':World} {X:Except Int (List Q0b)} {r:Ending} (h:Q2t w X r w') (hb:Below w0.heap.size w0 w):Q2t w0 X r w':=by
 obtain ⟨h1,h2⟩:=h
 refine ⟨Below.next0 hb h1,?_⟩
 cases X with
 |error e=>exact h2
 |ok P=>
  obtain ⟨a,n,c,ms,h3,h4,h5,h6,h7⟩:=h2
  exact ⟨a,n,c,ms,h3,h4,h5,h6,h7.more hb.size⟩
structure Qh0 (W:World) (b oi:Nat) (x:Q05) (aw:Option Addr) (lw cw:Nat) (ae:Option Addr) (le ce:Nat):Prop where
 c0:W.cell? ⟨b,oi,none⟩=some (.bool x.neg)
 c1:W.cell? ⟨b,oi+1,none⟩=some (.int .i64 x.exp)
 c2:W.cell? ⟨b,oi+2,none⟩=some (.slice aw lw cw)
 c3:W.cell? ⟨b,oi+3,none⟩=some (.slice ae le ce)
 wi:WordsIn W aw lw cw x.ws
theorem Qh0.step {W W':World} {b oi:Nat} {x:Q05} {aw:Option Addr} {lw cw:Nat} {ae:Option Addr} {le ce:Nat} (h:Qh0 W b oi x aw lw cw ae le ce) (hb:Below W.heap.size W W'):Qh0 W' b oi x aw lw cw ae le ce:=by
 have hlt:b<W.heap.size:=block_lt_of_cell h.c0
 exact ⟨(hb.cell (p:=⟨b,oi,none⟩) hlt).trans h.c0,(hb.cell (p:=⟨b,oi+1,none⟩) hlt).trans h.c1,(hb.cell (p:=⟨b,oi+2,none⟩) hlt).trans h.c2,(hb.cell (p:=⟨b,oi+3,none⟩) hlt).trans h.c3,h.wi.step hb⟩
def Qwm (w:World) (ts:List Q0b) (s6 s7:Value) (wr:World):Prop:=∃(i:Nat) (a:Option Addr) (c:Nat) (xs:List Value),s6=.slice a i c/\s7=.int .i64 (i:Int)/\i<=ts.length/\Q4c w wr a i c (ts.take i) xs
theorem Qh1 (a:Option Addr) (n c:Nat) (ms:List Q05) (k:Nat) (w:World) (h:Q0c w a n c ms) (hr:∀m∈ms,Q0m k m.es/\Q0h m.neg m.exp m.ws) (hk1:1<=k) (hk4:k<=4) (hn:n<=1000):
 Calls Tryz.prog 48 #[.slice a n c,.int .i64 (k:Int)] w (Q2t w (Q1t (ms.map Q05.term))):=by
 have hln:=h.1
 have hcm:=Nat.le_trans h.2.1 h.2.2.1
 have hk1':¬(k:Int)<1:=by omega
 have hk4':¬4<(k:Int):=by omega
 obtain ⟨X,hX⟩:∃X,Q1t (ms.map Q05.term)=X:=⟨_,rfl⟩
 rw[hX]
 have H:=Xh3 h hr hX
 clear h hr hX
 go_enter Tryz.func48,Tryz.ntmps48
 go_wp2_with fail
 go_loopw [6,7] (fun s6 s7 wr=>Qwm w (ms.map Q05.term) s6 s7 wr) (fun _ iv _=>n-(intOf iv).toNat)
 case atStart=>exact ⟨0,none,0,[],rfl,rfl,Nat.zero_le _,rfl,Q4b.nil_ _ _ _ _ _,rfl,Below.refl _ _⟩
 case round=>
  obtain ⟨i,a1,c1,xs,rfl,rfl,hi,hst⟩:=hrel
  rw[List.length_map,hln] at hi
  by_cases hlt:i<n
  ·have hlt':(i:Int)<(n:Int):=by omega
   obtain ⟨x,hx⟩:∃x,ms[i]?=some x:=⟨_,List.getElem?_eq_getElem (by omega)⟩
   obtain ⟨b,o,rfl,hb0,hat⟩:∃b o,a=some ⟨b,o,none⟩/\b<w.heap.size/\∀j m,ms[j]?=some m->Q4a w b (o+j*4) m:=by
    rcases (Xo0 H).2.2.2 with h0|h0
    ·rw[h0] at hx;simp at hx
    ·exact h0
   obtain ⟨aw,lw,cw,ae,le,ce,k0,k1,k2,k3,hw,he,hx1,hx2⟩:=hat i x hx
   have hrx:=(Xo1 H) x (List.mem_of_getElem? hx)
   have hbr:=hst.2.2.2
   have hit:Qh0 wr b (o+i*4) x aw lw cw ae le ce:=(⟨k0,k1,k2,k3,hw⟩:Qh0 w b (o+i*4) x aw lw cw ae le ce).step hbr
   have hmono:=Qj7 x.neg x.exp aw lw cw x.ws ae le ce x.es k wr hit.wi (he.step hbr) hk4 hx1 hx2
   rw[decide_eq_true hrx] at hmono
   have k0:=hit.c0
   have k1:=hit.c1
   have k2:=hit.c2
   have k3:=hit.c3
   have htk:(ms.map Q05.term).take (i+1)=(ms.map Q05.term).take i++[x.term]:=Q5r (by rw[List.getElem?_map,hx];rfl)
   have HS:=Xh5 hst hit hrx he htk
   clear hst hit hrx he htk hbr hat hw hx hx1 hx2
   go_upto_region 9 with (go_at_call 92;refine hmono.mono ?_;rintro r w3 ⟨rfl,hb3⟩;have HB:=Lib.hid hb3;clear hb3 hmono)
   refine Q4t (Φ:=fun U=>Below wr.heap.size wr U) (P:=fun U=>Code.wp _ _ _ _ U) _ HB.out ?_
   intro U hU
   have HC:=Lib.hid (fun W (h:Below U.heap.size U W)=>((Xo1 HS).step hU).step h)
   have HT:=Xh4 ((Xo0 HS).step hU) (show i<=1000 by omega) (Xo2 HS).2 (Xo3 HS)
   clear hU
   refine Q6z (by kernel_rfl) 14 rfl (fun W=>Below U.heap.size U W) (fun _ _ h h'=>Below.next0 h h') (Q6k [.slice a1 i c1,.slice (some ⟨b,o,none⟩) n c,.int .i64 (i:Int),.pointer (some ⟨b,o+i*4,none⟩),.pointer (some ⟨b,o+i*4,none⟩),.agg #[.bool x.neg,.int .i64 x.exp,.slice aw lw cw],undef,.slice (some ⟨b,o,none⟩) n c,.int .i64 (i:Int),.pointer (some ⟨b,o+i*4,none⟩),.pointer (some ⟨b,o+i*4+3,none⟩),.slice ae le ce,undef,undef] (Q5o [(6,fun u w=>Q4h w u (Q1q x.neg x.exp x.ws)),(12,Qw8 w x.term),(13,Qqo w x.term)])) (Q0q (Q1c (Qw3 (Q1d _) (Qgz _ _) (Qe9 _ _)))) (fun v W'=>∃a8 c8 xs8,v=.slice a8 (i+1) c8/\Q4c w W' a8 (i+1) c8 ((ms.map Q05.term).take i++[x.term]) xs8) (by kernel_rfl) (by kernel_rfl) (by kernel_rfl) (by kernel_rfl) (Q08 U) ?_ ?_ ?_
   ·skip
    refine ⟨fun A W hW hag hdep=>?_,?_⟩
    ·have e6:A.tmps[6]?.getD undef=.slice a1 i c1:=Q03 (hag.keep (t:=6) (by kernel_rfl) rfl)
     refine Q01 rfl ?_
     refine Q02 (u:=.slice a1 i c1) ?_ ((Q00 rfl).2 rfl)
     simp[go_sem,e6]
    refine ⟨fun A W hW hag hdep=>?_,?_⟩
    ·have e0:A.tmps[0]?.getD undef=.slice (some ⟨b,o,none⟩) n c:=Q03 (hag.keep (t:=0) (by kernel_rfl) rfl)
     refine Q01 rfl ?_
     refine Q02 (u:=.slice (some ⟨b,o,none⟩) n c) ?_ ((Q00 rfl).2 rfl)
     simp[go_sem,e0]
    refine ⟨fun A W hW hag hdep=>?_,?_⟩
    ·have e7:A.tmps[7]?.getD undef=.int .i64 (i:Int):=Q03 (hag.keep (t:=7) (by kernel_rfl) rfl)
     refine Q01 rfl ?_
     refine Q02 (u:=.int .i64 (i:Int)) ?_ ((Q00 rfl).2 rfl)
     simp[go_sem,e7]
    refine ⟨fun A W hW hag hdep=>?_,?_⟩
    ·have e28:A.tmps[28]?.getD undef=.slice (some ⟨b,o,none⟩) n c:=Q03 ((Q00 rfl).1 (hdep 1 (by decide)))
     have e29:A.tmps[29]?.getD undef=.int .i64 (i:Int):=Q03 ((Q00 rfl).1 (hdep 2 (by decide)))
     refine Q01 rfl ?_
     refine Q02 (u:=.pointer (some ⟨b,o+i*4,none⟩)) ?_ ((Q00 rfl).2 rfl)
     simp[go_sem,e28,e29,hlt']
    refine ⟨fun A W hW hag hdep=>?_,?_⟩
    ·have e30:A.tmps[30]?.getD undef=.pointer (some ⟨b,o+i*4,none⟩):=Q03 ((Q00 rfl).1 (hdep 3 (by decide)))
     refine Q01 rfl ?_
     refine Q02 (u:=.pointer (some ⟨b,o+i*4,none⟩)) ?_ ((Q00 rfl).2 rfl)
     simp[go_sem,e30]
    refine ⟨fun A W hW hag hdep=>?_,?_⟩
    ·have e31:A.tmps[31]?.getD undef=.pointer (some ⟨b,o+i*4,none⟩):=Q03 ((Q00 rfl).1 (hdep 4 (by decide)))
     refine Q01 rfl ?_
     refine Q02 (u:=.agg #[.bool x.neg,.int .i64 x.exp,.slice aw lw cw]) ?_ ((Q00 rfl).2 rfl)
     simp[go_sem,e31,(HC.out W hW).c0,(HC.out W hW).c1,(HC.out W hW).c2]
    refine ⟨fun A W hW hag hdep=>?_,?_⟩
    ·have e32:A.tmps[32]?.getD undef=.agg #[.bool x.neg,.int .i64 x.exp,.slice aw lw cw]:=Q03 ((Q00 rfl).1 (hdep 5 (by decide)))
     refine Q01 rfl ?_
     refine Q0j (f:=24) (args:= #[.agg #[.bool x.neg,.int .i64 x.exp,.slice aw lw cw]]) (by simp[go_sem,e32]) ((Q8a x.neg x.exp aw lw cw x.ws W (HC.out W hW).wi (Xo2 HT)).mono ?_)
     rintro e w2' ⟨u',rfl,hv',hb'⟩
     exact ⟨_,rfl,hb',(Q06 rfl).2 hv'⟩
    refine ⟨fun A W hW hag hdep=>?_,?_⟩
    ·have e0:A.tmps[0]?.getD undef=.slice (some ⟨b,o,none⟩) n c:=Q03 (hag.keep (t:=0) (by kernel_rfl) rfl)
     refine Q01 rfl ?_
     refine Q02 (u:=.slice (some ⟨b,o,none⟩) n c) ?_ ((Q00 rfl).2 rfl)
     simp[go_sem,e0]
    refine ⟨fun A W hW hag hdep=>?_,?_⟩
    ·have e7:A.tmps[7]?.getD undef=.int .i64 (i:Int):=Q03 (hag.keep (t:=7) (by kernel_rfl) rfl)
     refine Q01 rfl ?_
     refine Q02 (u:=.int .i64 (i:Int)) ?_ ((Q00 rfl).2 rfl)
     simp[go_sem,e7]
    refine ⟨fun A W hW hag hdep=>?_,?_⟩
    ·have e34:A.tmps[34]?.getD undef=.slice (some ⟨b,o,none⟩) n c:=Q03 ((Q00 rfl).1 (hdep 7 (by decide)))
     have e35:A.tmps[35]?.getD undef=.int .i64 (i:Int):=Q03 ((Q00 rfl).1 (hdep 8 (by decide)))
     refine Q01 rfl ?_
     refine Q02 (u:=.pointer (some ⟨b,o+i*4,none⟩)) ?_ ((Q00 rfl).2 rfl)
     simp[go_sem,e34,e35,hlt']
    refine ⟨fun A W hW hag hdep=>?_,?_⟩
    ·have e36:A.tmps[36]?.getD undef=.pointer (some ⟨b,o+i*4,none⟩):=Q03 ((Q00 rfl).1 (hdep 9 (by decide)))
     refine Q01 rfl ?_
     refine Q02 (u:=.pointer (some ⟨b,o+i*4+3,none⟩)) ?_ ((Q00 rfl).2 rfl)
     simp[go_sem,e36]
    refine ⟨fun A W hW hag hdep=>?_,?_⟩
    ·have e37:A.tmps[37]?.getD undef=.pointer (some ⟨b,o+i*4+3,none⟩):=Q03 ((Q00 rfl).1 (hdep 10 (by decide)))
     refine Q01 rfl ?_
     refine Q02 (u:=.slice ae le ce) ?_ ((Q00 rfl).2 rfl)
     simp[go_sem,e37,(HC.out W hW).c3]
    refine ⟨fun A W hW hag hdep=>?_,?_⟩
    ·have e38:A.tmps[38]?.getD undef=.slice ae le ce:=Q03 ((Q00 rfl).1 (hdep 11 (by decide)))
     refine Q01 rfl ?_
     obtain ⟨n8,a8,l8,c8,q8,v8,hv8,hd8,hcn8,hD8⟩:=(Q06 rfl).1 (hdep 6 (by decide))
     have e33:=Q03 hv8
     refine Q7g (w':=W) (u:=.agg #[.bool n8,.slice a8 l8 c8,.int .i64 q8,.slice ae le ce]) (by simp[go_sem,e33,e38]) (Below.refl _ _) ((Q06 rfl).2 ⟨_,_,_,_,rfl,n8,a8,l8,c8,q8,v8,ae,le,ce,[],rfl,⟨hd8,hcn8,hD8,(Xe3 HT)⟩,rfl⟩)
    refine ⟨fun A W hW hag hdep=>?_,?_⟩
    ·refine Q01 rfl ?_
     obtain ⟨v0,v1,v2,v3,hv9,henc9⟩:=(Q06 rfl).1 (hdep 12 (by decide))
     have e39:A.eval (.tmp 39)=.agg #[v0,v1,v2,v3]:=hv9
     refine Q7g (Q6s 142 1 #[(0,.tmp 39)] (by rfl) (parts':= #[(0,.agg #[v0,v1,v2,v3])]) (by simp[e39]) (Qjd W _ _ _ _)) ((Below.refl _ _).alloc (Nat.le_refl _) _) ((Q06 rfl).2 ⟨W.heap.size,[v0,v1,v2,v3],rfl,Q0f _ _,heap_alloc_new _ _,henc9.keep (fun h=>h.step ((Below.refl _ _).alloc (Nat.le_refl _) _))⟩)
    exact trivial
   ·refine And.intro ?_ (And.intro (by decide) ?_)
    ·intro A W hW hag hdep
     have h27:A.eval (.tmp 27)=.slice a1 i c1:=(Q00 rfl).1 (hdep 0 (by decide))
     have hv:=(Q06 rfl).1 (hdep 13 (by decide))
     obtain ⟨a8,c8,W8,xs8,hrun8,hst8⟩:=Qqp (Xo0 HT) hW hv (Xo1 HT) 142
     rw[Q7h (.tmp 27) (.tmp 40) 142 142 (by rfl) h27 rfl hrun8]
     exact ⟨a8,c8,xs8,rfl,hst8⟩
    ·intro a w hag;rfl
   intro vs W1 hfin hv15
   obtain ⟨a8,c8,xs8,hv8,hst8⟩:=hfin
   have h15:=hv15.trans hv8
   rw[<-(Xe4 HS)] at hst8
   have HF:=Lib.hid hst8
   clear hst8 hv8
   simp only[Q10,Act.put,List.setIfInBounds_toArray,List.set_cons_zero,List.set_cons_succ,h15]
   clear h15 hv15
   go_wp2_with fail
   exact ⟨⟨i+1,a8,c8,xs8,rfl,congrArg (Value.int .i64) (by omega),by rw[List.length_map,hln];omega,HF.out⟩,by simp only[intOf];omega⟩
  ·have hlt':¬(i:Int)<(n:Int):=by omega
   have htk:(ms.map Q05.term).take i=ms.map Q05.term:=List.take_of_length_le (by rw[List.length_map];omega)
   rw[htk] at hst
   have hg:=Qn3 a1 i c1 (ms.map Q05.term) k 69632 wr hst.terms (fun p hp=>by
    obtain ⟨m,hm,rfl⟩:=List.mem_map.1 hp
    exact ((Xo1 H) m hm).1.1) (fun p hp=>by
    obtain ⟨m,hm,rfl⟩:=List.mem_map.1 hp
    obtain ⟨j,hj,rfl⟩:=List.getElem_of_mem hm
    rcases (Xo0 H).2.2.2 with h0|⟨b,o,_,_,hat⟩
    ·rw[h0] at hj;simp at hj
    ·obtain ⟨_,_,_,_,_,_,_,_,_,_,hw,_⟩:=hat j _ (List.getElem?_eq_getElem hj)
     exact Qsp (Qch ((Xo1 H) _ hm).2 hw.low) (by omega)) (by omega) (by omega) hk1 (by omega)
   rw[(Xe2 H)] at hg
   have HS:=Lib.hid hst.2.2.2
   clear hst htk
   go_wp2_with (go_at_call 93;refine hg.mono ?_;rintro r w3 hPO;obtain ⟨x9,er9,rfl⟩:=hPO.pair;have H3:=Lib.hid hPO;clear hPO)
   exact ⟨rfl,.tuple #[x9,.int .i64 er9],by simp[results,go_sem],H3.out.from_ HS.out⟩
def Qux (b i:Nat) (n:Nat) (w:World) (e:Ending) (w':World):Prop:=(∃x:Nat,x<n/\e=.returned (.int .i64 (x:Int)))/\Q6g w' b (i+1)/\Q0n (·=b) w w'
theorem Quy (b i n:Nat) (w:World) (h:Q6g w b i) (hi:i<=1000000) (h0:0<n) (hn:n<=1000000):
 Calls Tryz.prog 14 #[.pointer (some ⟨b,0,none⟩),.int .i64 (n:Int)] w (Qux b i n w):=by
 have hc:=Q9m b i w h hi
 have HC:=Lib.hid hc
 clear hc h
 go_enter Tryz.func14,Tryz.ntmps14
 go_wp2_with (refine HC.out.mono ?_;rintro e w1 ⟨⟨x,hx,rfl⟩,hd,ht⟩;(have HD:=Xh2 hd ht);clear hd ht)
 go_ret
 have hm:(x:Int)%(n:Int)=((x%n:Nat):Int):=by norm_cast
 have hlt:x%n<n:=Nat.mod_lt _ h0
 refine ⟨⟨x%n,hlt,?_⟩,HD.out⟩
 show Ending.returned (.int .i64 (wrap64 ((x:Int)%(n:Int))))=_
 rw[hm]
 congr 2
 unfold wrap64;omega
structure Q3k (W:World) (g:Nat) (E:List Int):Prop where
 cell:∀j x,E[j]?=some x->W.cell? ⟨g,j,none⟩=some (.int .i64 x)
 free:∀j,W.frozen? ⟨g,j,none⟩=false
 lt:g<W.heap.size
theorem Q3k.new (W:World) (n:Nat):Q3k (W.alloc (.cells (Array.replicate n (nv .i64 0)) 3)) W.heap.size (List.replicate n 0):=by
 refine ⟨fun j x hx=>?_,fun j=>frozen_of_row _ _ _ _ _ (heap_alloc_new _ _),Q0f _ _⟩
 rw[cell_of_row _ _ _ _ _ _ (heap_alloc_new _ _)]
 rw[List.getElem?_replicate] at hx
 split at hx
 ·rename_i h
  injection hx with hx
  subst hx
  simp[h,nv]
 ·cases hx
theorem Q3k.turn {fp:Nat->Prop} {w w':World} {g:Nat} {E:List Int} (h:Q3k w g E) (ht:Q0n fp w w') (hn:¬fp g):Q3k w' g E:=
 ⟨fun j x hx=>(ht.cell (p:=⟨g,j,none⟩) h.lt hn).trans (h.cell j x hx),fun j=>(ht.frozen (p:=⟨g,j,none⟩) h.lt hn).trans (h.free j),Nat.lt_of_lt_of_le h.lt ht.size⟩
theorem Q3k.set {w:World} {g r:Nat} {E:List Int} {y:Int} (h:Q3k w g E) (hy:E[r]?=some y) (z:Int):Q3k (w.setCell ⟨g,r,none⟩ (.int .i64 z)) g (E.set r z):=by
 refine ⟨fun j x hx=>?_,fun j=>(World.frozen?_setCell _ _ _ _).trans (h.free j),by rw[World.size_setCell];exact h.lt⟩
 by_cases e:r=j
 ·subst e
  rw[List.getElem?_set_self (List.getElem?_eq_some_iff.1 hy).1] at hx
  injection hx with hx
  subst hx
  exact World.cell?_setCell_same' _ _ _ (by rw[h.cell r y hy];rfl)
 ·rw[List.getElem?_set_ne e] at hx
  exact (World.cell?_setCell_other _ _ _ _ (by simp;try omega)).trans (h.cell j x hx)
theorem Qh2:∀{E:List Int} {r:Nat} {y:Int},E[r]?=some y->(E.set r (y+1)).sum=E.sum+1
 |[],r,y,h=>by simp at h
 |x::t,0,y,h=>by
  simp only[List.getElem?_cons_zero,Option.some.injEq] at h
  subst h
  simp only[List.set_cons_zero,List.sum_cons];omega
 |x::t,r+1,y,h=>by
  simp only[List.set_cons_succ,List.sum_cons]
  rw[Qh2 (by simpa using h)];omega
theorem Q8d:∀{E:List Int} {r:Nat} {y:Int},(∀x∈E,0<=x)->E[r]?=some y->y<=E.sum
 |[],r,y,_,h=>by simp at h
 |x::t,0,y,h0,h=>by
  simp only[List.getElem?_cons_zero,Option.some.injEq] at h
  subst h
  have:0<=t.sum:=sum0 fun z hz=>h0 z (List.mem_cons_of_mem _ hz)
  rw[List.sum_cons];omega
 |x::t,r+1,y,h0,h=>by
  have:=Q8d (E:=t) (r:=r) (fun z hz=>h0 z (List.mem_cons_of_mem _ hz)) (by simpa using h)
  have:=h0 x (List.mem_cons_self ..)
  rw[List.sum_cons];omega
where
 sum0:∀{E:List Int},(∀x∈E,0<=x)->0<=E.sum
 |[],_=>by simp
 |x::t,h=>by
  have:=sum0 (E:=t) fun z hz=>h z (List.mem_cons_of_mem _ hz)
  have:=h x (List.mem_cons_self ..)
  rw[List.sum_cons];omega
def Qkz (w:World) (b i n deg:Nat) (s8:Value) (wr:World):Prop:=∃(kk q:Nat) (E:List Int),s8=.int .i64 (kk:Int)/\E.length=n/\(∀x∈E,0<=x)/\E.sum+kk<=deg/\Q3k wr w.heap.size E/\Q6g wr b q/\q+kk<=i+1+deg/\Q0n (·=b) w wr
theorem Qn4 {w w2:World} {b i n deg kk q r:Nat} {E:List Int} {y:Int} (hln:E.length=n) (h0:∀x∈E,0<=x) (hs:E.sum+(kk+1:Nat)<=deg) (hr:Q3k w2 w.heap.size E) (hd:Q6g w2 b q) (hq:q+kk<=i+1+deg) (ht:Q0n (·=b) w w2) (hy:E[r]?=some y) (hb:b<w.heap.size):
 Qkz w b i n deg (.int .i64 (kk:Int)) (w2.setCell ⟨w.heap.size,r,none⟩ (.int .i64 (y+1))):=by
 refine ⟨kk,q,E.set r (y+1),rfl,by rw[List.length_set];exact hln,fun x hx=>?_,by rw[Qh2 hy];omega,hr.set hy _,?_,hq,ht.newSet (p:=⟨w.heap.size,r,none⟩) (Nat.le_refl _) _⟩
 ·rcases List.mem_or_eq_of_mem_set hx with h|rfl
  ·exact h0 x h
  ·have:=h0 y (List.mem_of_getElem? hy);omega
 ·exact hd.turn (Q0n.setCell (fun k=>k=w.heap.size) w2 (p:=⟨w.heap.size,r,none⟩) rfl _) fun k hk=>by omega
theorem Q6g.nou {w:World} {b i:Nat} (h:Q6g w b i):∀(o x:Nat),w.cell? ⟨b,o,none⟩≠some (nv .u64 x):=by
 obtain ⟨a,n,c,ls,hh,_⟩:=h
 intro o x e
 rw[cell_of_row _ _ _ _ _ _ hh] at e
 match o,e with
 |0,e=>simp[nv] at e
 |1,e=>simp[nv] at e
 |o+2,e=>simp at e
theorem Q5q.turn {B b n c:Nat} {w w':World} {a:Option Addr} {all:List Q05} {xs:List Value} (hD:Q5q B w a n c all xs) (hbB:b<B) (hnu:∀(o x:Nat),w.cell? ⟨b,o,none⟩≠some (nv .u64 x)) (ht:Q0n (·=b) w w'):Q5q B w' a n c all xs:=by
 obtain ⟨h,hr,hN⟩:=hD
 have hab:∀x,a=some x->x.block≠b:=fun x hx e=>by have:=(h.lt hx).1;omega
 have hr':Q4b NoU w' B 44 4 a n c xs:=hr.keep fun x hx=>ht.block _ (h.lt hx).2 (hab x hx)
 refine ⟨⟨⟨xs,hr'⟩,fun j m hm=>?_,h.len⟩,hr',hN⟩
 obtain ⟨g,ha,aw,lw,cw,be,oe,le,ce,h0,h1,h2,h3,h4,h5,h6,h7⟩:=h.ent j m hm
 have hg:=h.lt ha
 have hgb:=hab _ ha
 have hjn:j<n:=by rw[<-h.len];exact (List.getElem?_eq_some_iff.1 hm).1
 obtain ⟨be',oe',le',ce',hx,hB⟩:=hN j hjn
 subst ha
 have h3':=hr.1.cell0 hx
 rw[h3] at h3'
 simp only[Option.some.injEq,Value.slice.injEq,Addr.mk.injEq] at h3'
 obtain ⟨⟨rfl,rfl,_⟩,rfl,rfl⟩:=h3'
 have hcell:∀o,w'.cell? ⟨g,o,none⟩=w.cell? ⟨g,o,none⟩:=fun o=>ht.cell (p:=⟨g,o,none⟩) hg.2 hgb
 have hoff:Qr7 (·=b) aw m.ws:=by
  rcases h4.rd with e|⟨bb,oo,rfl,hb,hc⟩
  ·exact .inl e
  cases hL:m.ws with
  |nil=>exact .inl rfl
  |cons y r=>
   refine .inr fun x hx e=>?_
   injection hx with hx
   subst hx
   have e:bb=b:=e
   subst e
   rw[hL] at hc
   exact hnu _ _ (hc 0 y rfl)
 have hi5:Q0k w' (some ⟨be,oe,none⟩) le ce m.es:=by
  refine ⟨h5.len,h5.cap,h5.most,h5.rng,?_⟩
  rcases h5.rd with h8|⟨b2,oo,e,hb,hcc⟩
  ·exact .inl h8
  ·injection e with e
   injection e with e1 e2
   subst e1;subst e2
   exact .inr ⟨be,oe,rfl,Nat.lt_of_lt_of_le hb ht.size,fun i x hx=>(ht.cell (p:=⟨be,oe+i,none⟩) hb (by show¬be=b;omega)).trans (hcc i x hx)⟩
 exact ⟨g,rfl,aw,lw,cw,be,oe,le,ce,(hcell _).trans h0,(hcell _).trans h1,(hcell _).trans h2,(hcell _).trans h3,h4.turn hoff ht (fun _ h=>h),hi5,h6,Nat.lt_of_lt_of_le h7 ht.size⟩
theorem Q5q.push {B:Nat} {W:World} {a:Option Addr} {n c:Nat} {all:List Q05} {xs:List Value} (hD:Q5q B W a n c all xs) (hB:B<=W.heap.size) {m:Q05} {aw:Option Addr} {lw cw g le ce:Nat} (hw:WordsIn W aw lw cw m.ws) (hE:Q0k W (some ⟨g,0,none⟩) le ce m.es) (hg:B<=g) (hgl:g<W.heap.size) (hga:∀x,a=some x->x.block≠g) (hn:n<=1000):
 ∃a' c' W' xs',(Builtin.append_ #[25,25] 25 #[.slice a n c,.slice (some ⟨W.heap.size,0,none⟩) 1 1]).run Tryz.prog (W.alloc (.cells #[.bool m.neg,.int .i64 m.exp,.slice aw lw cw,.slice (some ⟨g,0,none⟩) le ce] 44))=.ok (.slice a' (n+1) c') W'/\Q5q B W' a' (n+1) c' (all++[m]) xs'/\Below B W W':=by
 obtain ⟨i0,hi0,hz0,hz1,hz2⟩:=Q0t Q45
 have hal:Below W.heap.size W (W.alloc (.cells #[.bool m.neg,.int .i64 m.exp,.slice aw lw cw,.slice (some ⟨g,0,none⟩) le ce] 44)):=(Below.refl _ _).alloc (Nat.le_refl _) _
 have hD':=hD.step hal
 obtain ⟨g6,c6,w6,hrun6,hrow6,hgr6,hat6⟩:=Q1f (P:=Tryz.prog) NoU (W.alloc (.cells #[.bool m.neg,.int .i64 m.exp,.slice aw lw cw,.slice (some ⟨g,0,none⟩) le ce] 44)) 25 25 44 i0 _ 4 64 Q7f hi0 hz0 hz1 hz2 rfl Q6r B (Nat.le_trans hB hal.size) a n c xs hD'.row W.heap.size 1 1 [.bool m.neg,.int .i64 m.exp,.slice aw lw cw,.slice (some ⟨g,0,none⟩) le ce] rfl (World.news_of_block (cs:= #[.bool m.neg,.int .i64 m.exp,.slice aw lw cw,.slice (some ⟨g,0,none⟩) le ce]) (heap_alloc_new _ _)) (by simp[Value.oneCell']) (by intro u hu;simp at hu;rcases hu with rfl|rfl|rfl|rfl <;> exact fun _=>by simp[nv]) (by decide) (by omega) (by decide) (by decide)
 have hxl:xs.length=n*4:=hD.row.1.len
 refine ⟨_,c6,w6,_,hrun6,⟨hD'.st.push1 hD'.row hgr6 hat6 hrow6 rfl (hw.step hal) (hE.step hal) (Nat.lt_of_lt_of_le hgl hal.size) hga,hrow6,fun j hj=>?_⟩,?_⟩
 ·by_cases hjn:j<n
  ·obtain ⟨be,oe,l2,c2,hx,hb⟩:=hD.new j hjn
   exact ⟨be,oe,l2,c2,by rw[List.getElem?_append_left (by omega)];exact hx,hb⟩
  ·obtain rfl:j=n:=by omega
   exact ⟨g,0,le,ce,by rw[List.getElem?_append_right (by omega),hxl,Nat.add_sub_cancel_left];rfl,hg⟩
 ·have hbB:Below B W (W.alloc (.cells #[.bool m.neg,.int .i64 m.exp,.slice aw lw cw,.slice (some ⟨g,0,none⟩) le ce] 44)):=(Below.refl _ _).alloc hB _
  exact hbB.trans ⟨hgr6.os,hgr6.tape,hgr6.output,hgr6.size,fun z hz=>hgr6.block z (Nat.lt_of_lt_of_le hz (Nat.le_trans hB hal.size)) (fun e=>by
   cases a with
   |none=>simp at e
   |some q=>simp only[Option.map_some,Option.some.injEq] at e;have:=(hD.st.lt rfl).1;omega)⟩
theorem Q0n.past {fp:Nat->Prop} {w W W':World} (h:Q0n fp w W) (hb:Below w.heap.size W W'):Q0n fp w W':=
 ⟨hb.os.trans h.os,hb.tape.trans h.tape,hb.output.trans h.output,Nat.le_trans h.size hb.size,fun k hk hn=>(hb.block k hk).trans (h.block k hk hn)⟩
theorem Qsy {n:Nat} {ms:List Q05} (h1:1<=n) (hn:n<=4) (hP:Q18 n (ms.map Q05.term)) (ho:∀m∈ms,Q0h m.neg m.exp m.ws/\m.ws≠[]):Q0s n ms:=by
 obtain ⟨h2,h3,h4⟩:=hP
 refine ⟨h1,hn,by rwa[List.length_map] at h3,fun m hm=>⟨⟨(h4 _ (List.mem_map.2 ⟨m,hm,rfl⟩)).2.2,(ho m hm).1⟩,(ho m hm).2⟩,?_⟩
 unfold Qa2 at h2
 rw[List.pairwise_map] at h2
 exact h2
end Go.Proofs.YtdilmfakkppgpaaGreatDoor
namespace Go.Proofs.YtdilmfakkppgpaaGreatDoor
open Go.RowKit WordsM DecM
def Qw9 (neg:Bool) (v:Nat) (exp:Int) (e:Ending) (w':World):Prop:=∃neg' e' a' n' c' L er,e=.returned (.agg #[.bool neg',.int .i64 e',.slice a' n' c'])/\Q56 neg v exp neg' e' L er/\WordsIn w' a' n' c' L
theorem Qh3 (neg:Bool) (a:Option Addr) (n c:Nat) (ls:List Nat) (exp:Int) (w:World) (h:WordsIn w a n c ls) (hn:n<=100000) (he: -1000000000<=exp) (he2:exp<=1000000000):
 Calls Tryz.prog 50 #[.bool neg,.slice a n c,.int .i64 exp] w fun e w'=>Qw9 neg (val (2^64) ls) exp e w'/\Below w.heap.size w w':=by
 have hB0:∀o,Below w.heap.size w (w.alloc o):=fun o=>(Below.refl _ _).alloc (Nat.le_refl _) _
 have hl0:=Q0f w (.cells #[.bool false,.int .i64 0,.slice none 0 0] 41)
 have hN0:=Q04.new w (.bool false) (.int .i64 0) (.slice none 0 0) 41
 have hm:=Qi3 neg a n c ls exp (w.alloc (.cells #[.bool false,.int .i64 0,.slice none 0 0] 41)) (h.step (hB0 _)) hn he he2
 have HM:=Xh2 hm hN0
 clear hm hN0 h
 go_enter Tryz.func50,Tryz.ntmps50
 go_wp2_with (refine (Xo0 HM).mono ?_;rintro e w1 ⟨neg2,e2,a2,n2,c2,L,er,rfl,hmo,hW,hb1⟩;
              have hba:Below w1.heap.size w1 (w1.alloc (.cells #[.bool neg2,.int .i64 e2,.slice a2 n2 c2] 41)):=(Below.refl _ _).alloc (Nat.le_refl _) _;
              have hbb:=Below.next0 hb1 hba;
              have hNN:=(Xe1 HM).step hbb hl0;have hc0:=hNN.c0;have hc1:=hNN.c1;have hc2:=hNN.c2;have hf0:=hNN.f0;have hf1:=hNN.f1;have hf2:=hNN.f2;have hd1:=hNN.d1 (.bool neg2);have hd2:=hNN.d2 (.bool neg2) (.int .i64 e2);
              have hGN:=Q04.new w1 (.bool neg2) (.int .i64 e2) (.slice a2 n2 c2) 41;have hg0:=hGN.c0;have hg1:=hGN.c1;have hg2:=hGN.c2;
              have HB1:=Xh4 hNN (Below.next0 (hB0 _) hbb) (hW.step hba) hmo;clear hNN hGN hba hbb hb1 hW hmo)
 have hS5:=(Xo0 HB1).store (.bool neg2) (.int .i64 e2) (.slice a2 n2 c2)
 have k0:=hS5.c0
 have k1:=hS5.c1
 have k2:=hS5.c2
 have hb6:=Q04.below (Xo1 HB1) (Nat.le_refl _) (.bool neg2) (.int .i64 e2) (.slice a2 n2 c2)
 have hWw:=(Xo2 HB1)
 have hW6:WordsIn _ a2 n2 c2 L:=⟨hWw.len,hWw.cap,hWw.most,hWw.low,(hWw.rd.store3 (Xo0 HB1) (fun _=>by simp[nv]) (fun _=>by simp[nv]) (fun _=>by simp[nv]) (.bool neg2) (.int .i64 e2) (.slice a2 n2 c2)).more (Q14 _ _ _ _ _)⟩
 clear hS5 hc0 hc1 hc2 hf0 hf1 hf2 hd1 hd2 hWw hg0 hg1 hg2
 generalize World.setCell _ _ _=W5 at k0 k1 k2 hb6 hW6⊢
 refine ⟨rfl,.agg #[.bool neg2,.int .i64 e2,.slice a2 n2 c2],by simp[results,go_sem,k0,k1,k2],⟨neg2,e2,a2,n2,c2,L,er,rfl,(Xe3 HB1),hW6⟩,hb6⟩
def Qh4 (neg:Bool) (e:Int) (L:List Nat):Prop:=Q0h neg e L/\val (2^64) L<64/\-6<=e/\e<=8
def Qac (e:Ending) (w':World):Prop:=∃neg' e' a' n' c' L,e=.returned (.agg #[.bool neg',.int .i64 e',.slice a' n' c'])/\Qh4 neg' e' L/\WordsIn w' a' n' c' L
theorem Qn5 {neg:Bool} {p:Nat} {e0:Int} {neg':Bool} {e':Int} {L:List Nat} {er:Int} (hp:p<=63) (h0:0<=e0) (h8:e0<=8) (h:Q56 neg (val (2^64) [p]) (e0-6) neg' e' L er):Qh4 neg' e' L:=by
 refine ⟨Qd8 h,?_⟩
 have hv:val (2^64) [p]=p:=by simp[val]
 rw[hv] at h
 rcases h with ⟨_,rfl,rfl,rfl,_⟩|⟨z,hz,⟨_,rfl,rfl,rfl,_⟩|⟨_,_,h,rfl,rfl,rfl,_⟩⟩
 ·exact ⟨by show 0<64;decide,by decide,by decide⟩
 ·exact ⟨by show 0<64;decide,by decide,by decide⟩
 ·have hp0:=hz.pos
  have hz1:=hz.1
  have hzl:z<6:=by
   refine Nat.lt_of_not_le fun hle=>?_
   have h1:2^6<=2^z:=Nat.pow_le_pow_right (by decide) hle
   have h2:p%2^z=p:=Nat.mod_eq_of_lt (by omega)
   omega
  rw[Q0r (by decide)]
  have h3:p / 2^z<=p:=Nat.div_le_self _ _
  exact ⟨by omega,by omega,by omega⟩
theorem Qac.of {neg:Bool} {p:Nat} {e0:Int} {neg':Bool} {e':Int} {L:List Nat} {er:Int} {a':Option Addr} {n' c':Nat} {w':World} (hp:p<=63) (h0:0<=e0) (h8:e0<=8) (h:Q56 neg (val (2^64) [p]) (e0-6) neg' e' L er) (hw:WordsIn w' a' n' c' L):Qac (.returned (.agg #[.bool neg',.int .i64 e',.slice a' n' c'])) w':=⟨_,_,_,_,_,_,rfl,Qn5 hp h0 h8 h,hw⟩
theorem Qdc (b i:Nat) (w:World) (h:Q6g w b i) (hi:i<=990000):
 Calls Tryz.prog 22 #[.pointer (some ⟨b,0,none⟩)] w fun e w'=>Qac e w'/\Q6g w' b (i+1)/\Q0n (·=b) w w':=by
 have hB0:∀o,Below w.heap.size w (w.alloc o):=fun o=>(Below.refl _ _).alloc (Nat.le_refl _) _
 have hl0:=Q0f w (.cells #[.bool false,.int .i64 0,.slice none 0 0] 41)
 have hN0:=Q04.new w (.bool false) (.int .i64 0) (.slice none 0 0) 41
 have hbl:=h.lt
 have hn1:=Q9m b i (w.alloc (.cells #[.bool false,.int .i64 0,.slice none 0 0] 41)) (h.call (hB0 _)) (by omega)
 have HM:=Xh2 hn1 hN0
 clear hn1 hN0 h
 go_enter Tryz.func22,Tryz.ntmps22
 go_upto_region 1 with fail
 go_cut [3] (fun v wx=>∃x:Nat,x<18446744073709551616/\v=.int .u64 (x:Int)/\Q6g wx b (i+1)/\Q0n (·=b) (w.alloc (.cells #[.bool false,.int .i64 0,.slice none 0 0] 41)) wx)
 case first=>
  go_wp2_with (refine (Xo0 HM).mono ?_;rintro e w1 ⟨⟨x,hx,rfl⟩,hd1,ht1⟩;have HD1:=Xh2 hd1 ht1;clear hd1 ht1)
  go_meet
  exact ⟨x,hx,rfl,(Xo0 HD1),(Xe1 HD1)⟩
 obtain ⟨x,hx,rfl,hd1,ht1⟩:=hcut
 have HD1:=Xh2 hd1 ht1
 clear hd1 ht1
 obtain ⟨m,hm⟩:∃m,x%2=m:=⟨_,rfl⟩
 have hand:bits .and .u64 (x:Int) 1=(m:Int):=by rw[show (1:Int)=((1:Nat):Int) from rfl,u64_and_nat x 1 hx (by decide),nat_mask1,hm]
 obtain ⟨neg,hneg⟩:∃neg,((m:Int)==1)=neg:=⟨_,rfl⟩
 obtain ⟨e0,he0,he1,he2⟩:∃e0:Int,(x:Int) / 128%9=e0/\0<=e0/\e0<=8:=⟨_,rfl,by omega,by omega⟩
 obtain ⟨y,hy⟩:∃y,x / 2=y:=⟨_,rfl⟩
 have hyI:(x:Int) / 2=(y:Int):=by omega
 obtain ⟨p,hp,hp63⟩:∃p:Nat,bits .and .u64 (y:Int) (63:Int)=(p:Int)/\p<=63:=⟨_,u64_and_nat y 63 (by omega) (by decide),Nat.and_le_right⟩
 have hpl:p<18446744073709551616:=by omega
 have hpI:bits .and .u64 (y:Int) 63=(p:Int):=hp
 clear hy hp hm
 have hNc:=(Xe1 HM).turn (Xe1 HD1) hl0 (by omega)
 have hlc:=Nat.lt_of_lt_of_le hl0 (Xe1 HD1).size
 have htc:Q0n (·=b) w wc:=(Q0n.of_below (hB0 _) _).trans0 (Xe1 HD1)
 have HN:=Xh3 hNc hlc htc
 clear hNc hlc htc
 go_wp2_with (refine (Qh3 neg (some ⟨wc.heap.size,0,none⟩) 1 1 [p] (e0-6) (wc.alloc (.cells #[.int .u64 (p:Int)] 74)) (Qus wc p (hpl) 74) (by decide) (by omega) (by omega)).mono ?_;rintro e w2 ⟨⟨neg2,e2,a2,n2,c2,L,er,rfl,hnum,hW⟩,hb2⟩;have hbx:=Below.next0 ((Below.refl wc.heap.size wc).alloc (Nat.le_refl _) (.cells #[.int .u64 (p:Int)] 74)) hb2;have hNN:=(Xo0 HN).step hbx (Xo1 HN);have hc0:=hNN.c0;have hc1:=hNN.c1;have hc2:=hNN.c2;have hf0:=hNN.f0;have hf1:=hNN.f1;have hf2:=hNN.f2;have hd1':=hNN.d1 (.bool neg2);have hd2':=hNN.d2 (.bool neg2) (.int .i64 e2);have HB2:=Xh5 hNN ((Xe2 HN).trans0 (Q0n.of_below hbx _)) hW hnum hbx;clear hNN hbx hW hnum hb2)
 have hS5:=(Xo0 HB2).store (.bool neg2) (.int .i64 e2) (.slice a2 n2 c2)
 have k0:=hS5.c0
 have k1:=hS5.c1
 have k2:=hS5.c2
 have ht6:=(((Xo1 HB2).newSet (p:=⟨w.heap.size,0,none⟩) (Nat.le_refl _) (.bool neg2)).newSet (p:=⟨w.heap.size,1,none⟩) (Nat.le_refl _) (.int .i64 e2)).newSet (p:=⟨w.heap.size,2,none⟩) (Nat.le_refl _) (.slice a2 n2 c2)
 have ht7:Q0n (fun k=>k=w.heap.size) wc (((w2.setCell ⟨w.heap.size,0,none⟩ (.bool neg2)).setCell ⟨w.heap.size,1,none⟩ (.int .i64 e2)).setCell ⟨w.heap.size,2,none⟩ (.slice a2 n2 c2)):=(((Q0n.of_below (Xe4 HB2) _).trans0 (Q0n.setCell (fun k=>k=w.heap.size) w2 (p:=⟨w.heap.size,0,none⟩) rfl (.bool neg2))).trans0 (Q0n.setCell (fun k=>k=w.heap.size) _ (p:=⟨w.heap.size,1,none⟩) rfl (.int .i64 e2))).trans0 (Q0n.setCell (fun k=>k=w.heap.size) _ (p:=⟨w.heap.size,2,none⟩) rfl (.slice a2 n2 c2))
 have hd7:=(Xo0 HD1).turn ht7 (fun k hk=>by omega)
 have hWw:=(Xo2 HB2)
 have hW6:WordsIn _ a2 n2 c2 L:=⟨hWw.len,hWw.cap,hWw.most,hWw.low,(hWw.rd.store3 (Xo0 HB2) (fun _=>by simp[nv]) (fun _=>by simp[nv]) (fun _=>by simp[nv]) (.bool neg2) (.int .i64 e2) (.slice a2 n2 c2)).more (Q14 _ _ _ _ _)⟩
 clear hS5 hc0 hc1 hc2 hf0 hf1 hf2 hd1' hd2' hWw ht7
 generalize World.setCell _ _ _=W5 at k0 k1 k2 ht6 hW6 hd7⊢
 exact ⟨rfl,.agg #[.bool neg2,.int .i64 e2,.slice a2 n2 c2],by simp[results,go_sem,k0,k1,k2],Qac.of hp63 he1 he2 (Xo3 HB2) hW6,hd7,ht6⟩
def EndC (c:UInt8):Prop:=(∀t:List UInt8,Qb1 (c::t)/\nb (c::t)=c/\Q3f (c::t)=0)/\c≠43/\c≠45/\c≠32
theorem Qsz:EndC 41:=by
 refine ⟨fun t=>?_,by decide,by decide,by decide⟩
 have hn:nb (41::t)=41:=by simp[nb,Q3f]
 exact ⟨⟨⟨⟨by rw[digN,if_neg];decide,fun x r h=>by injection h with h1 _;rw[<-h1];decide⟩,by rw[hn];decide⟩,by rw[hn];decide⟩,hn,by simp[Q3f]⟩
theorem Qn6 {n most:Nat} (hn:n<=most) (hm:most<=9) {s:List UInt8} (sub:Nat->PR Ex) (opens:Bool) {P:List Q0b} (hP:Q18 n P) {p0 p:Nat} (hs0:Q07 s p0=p) (hp:p<=s.length) {t:List UInt8} {c:UInt8} (hc:EndC c) (h2:At s p (Q15 P++c::t)):
 Q4e sub opens s most p0=.ok (Q39 P,p+(Q15 P).length):=by
 obtain ⟨hc1,hc2,hc3,hc4⟩:=hc
 obtain ⟨he1,he2,he3⟩:=hc1 t
 cases P with
 |nil=>
  have h2':At s p (Q2i false 0 0++c::t):=by
   have e:Q2i false 0 0=[48]:=by simp[Q2i,Q9p,Q1z]
   rw[e];exact h2
  have e:(Q2i false 0 0).length=1:=by simp[Q2i,Q9p,Q1z]
  have hfr:=Qoy most (v:=0) (e:=0) (by decide) (by decide) (by decide) (fun _=>rfl) (by exact Q7t)
  have h3:=Q7y sub opens he1.1 he1.2 [Q2i false 0 0] [.num (some 0)] (s.length+1) p [] (by simp) ⟨hfr,trivial⟩ (by simp) (by rw[h2.skip0 (by decide)];exact h2')
  rw[h2.skip0 (by decide)] at h3
  have h4:At s (p+1) (c::t):=by have:=At.app h2';rwa[e] at this
  have h5:=h4.skip0 hc4
  simp only[Q48,e,h5,List.nil_append] at h3
  unfold Q4e
  rw[hs0,h2.byte.1,if_neg (by decide),Q7v,h3]
  simp only
  rw[h5,h4.byte.1,if_neg hc2,if_neg hc3]
  rfl
 |cons q r=>
  have hq:=hP.2.2 q (by simp)
  obtain ⟨x,y,hx,hx32,hx45⟩:=Q6q hq.1 hq.2 hn hm
  have hlen:=h2.len hp
  have hrl:r.length<s.length+1:=by
   have:∀(l:List Q0b),l.length<=(Q0g false l).length:=fun l=>by
    induction l with
    |nil=>simp
    |cons a l ih=>
     have:1<=(Q2n false a).length:=by unfold Q2n;rw[if_neg (by decide)];split <;> simp
     simp only[Q0g,List.length_append,List.length_cons];omega
   have h9:=this r
   simp only[Q15,Q0g,List.length_append,List.length_cons,reduceCtorEq,if_false] at hlen
   omega
  have hst:=fun (b:Bool) (f':Nat) (h:At s (Q07 s f') (Q11 q++(Q0g false r++c::t))) (hf:f'<=s.length)=>Qdw hn hm sub opens he1 (by rw[he2];exact hc2) (by rw[he2];exact hc3) r q (s.length+1) f' b [] hP.2.2 hrl hf h
  have hpt:Q15 (q::r)=Q2n true q++(Q11 q++Q0g false r):=by simp[Q15,Q0g]
  rw[hpt] at h2⊢
  have hlast:∀p',At s p' (Q11 q++(Q0g false r++c::t))->Q07 s (p'+(Q11 q++Q0g false r).length)=p'+(Q11 q++Q0g false r).length:=fun p' h=>by
   have h':At s p' ((Q11 q++Q0g false r)++c::t):=by rw[List.append_assoc];exact h
   exact (At.app h').skip0 hc4
  cases hbl:Q2y q.1
  ·have hsg:Q2n true q=[]:=by simp[Q2n,hbl]
   rw[hsg,List.nil_append] at h2
   rw[hsg,List.nil_append]
   have h2':At s p (Q11 q++(Q0g false r++c::t)):=by rw[<-List.append_assoc];exact h2
   have h3:At s p (x::(y++(Q0g false r++c::t))):=by rw[hx] at h2';exact h2'
   have hs1:=h3.skip0 hx32
   unfold Q4e
   rw[hs0,h3.byte.1,if_neg hx45,hst false p (by rw[hs1];exact h2') (by omega),hs1,hlast _ h2']
   simp[Q39,Qlw,hbl]
  ·have hsg:Q2n true q=[45]:=by simp[Q2n,hbl]
   rw[hsg] at h2⊢
   have h2'':At s p (45::(Q11 q++(Q0g false r++c::t))):=by simpa using h2
   obtain ⟨h6,h2'⟩:=h2''.byte
   have hlt:=Q0i h6 (by decide)
   have h3:At s (p+1) (x::(y++(Q0g false r++c::t))):=by rw[hx] at h2';exact h2'
   have hs1:=h3.skip0 hx32
   unfold Q4e
   rw[hs0,h6,if_pos rfl,hst true (p+1) (by rw[hs1];exact h2') (by omega),hs1,hlast _ h2']
   simp only[Q39,Qlw,hbl,List.nil_append,List.map_cons,reduceCtorEq,if_false,List.length_append,List.length_cons,List.length_nil]
   congr 2
   omega
theorem Qdd {n most:Nat} (hn:n<=most) (hm:most<=9) {P:List Q0b} (hP:Q18 n P):∃x y,Q15 P=x::y/\x≠32:=by
 cases P with
 |nil=>exact ⟨48,[],rfl,by decide⟩
 |cons q r=>
  have hq:=hP.2.2 q (by simp)
  obtain ⟨x,y,hx,hx32,hx45⟩:=Q6q (most:=most) hq.1 hq.2 hn hm
  cases hb:Q2y q.1
  ·exact ⟨x,y++Q0g false r,by simp[Q15,Q0g,Q2n,hb,hx],hx32⟩
  ·exact ⟨45,Q11 q++Q0g false r,by simp[Q15,Q0g,Q2n,hb],by decide⟩
theorem Ql0 {n most:Nat} (hn:n<=most) (hm:most<=9) {s:List UInt8} {P:List Q0b} (hP:Q18 n P) {d p0 p:Nat} {r:List UInt8} (hs0:Q07 s p0=p) (ha:At s p (40::(Q15 P++41::r))):
 Q4u (Q3o s most (d+1)) true s most p0=.ok (Q39 P,p+(Q15 P).length+2)/\At s (p+(Q15 P).length+2) r:=by
 obtain ⟨h1,h2⟩:=ha.byte
 have hlt:=Q0i h1 (by decide)
 obtain ⟨x,y,hx,hx32⟩:=Qdd (most:=most) hn hm hP
 have hs1:Q07 s (p+1)=p+1:=by
  have h3:=h2
  rw[hx] at h3
  exact At.skip0 (t:=y++41::r) h3 hx32
 have h4:=Qn6 hn hm (Q3o s most d) true hP hs1 (by omega) Qsz h2
 have h5:=At.app h2
 have h6:=h5.skip0 (by decide)
 obtain ⟨h7,h8⟩:=h5.byte
 refine ⟨?_,by rw[show p+(Q15 P).length+2=p+1+(Q15 P).length+1 by omega];exact h8⟩
 unfold Q4u
 rw[hs0,h1,if_neg (by decide),if_neg (by decide),if_pos ⟨rfl,rfl⟩,show Q3o s most (d+1)=Q4e (Q3o s most d) true s most from rfl,h4]
 simp only
 rw[h6,if_pos h7]
 congr 2
 omega
theorem Qje {n most:Nat} (hn:n<=most) (hm:most<=9) {s:List UInt8} {P:List Q0b} (hP:Q18 n P) {d p0 p:Nat} {r:List UInt8} (hs0:Q07 s p0=p) (ha:At s p (40::(Q15 P++41::r))) (hr:nb r≠94):
 Q1r (Q3o s most (d+1)) true s most p0=.ok (Q39 P,p+(Q15 P).length+2+Q3f r)/\At s (p+(Q15 P).length+2) r:=by
 obtain ⟨h1,h2⟩:=Ql0 hn hm hP (d:=d) hs0 ha
 refine ⟨?_,h2⟩
 unfold Q1r
 rw[h1]
 simp only
 rw[h2.nb,if_neg hr,h2.skip]
def Qde (A B:List Q0b):Ex:=.sum [(false,.prod [Q39 A,Q39 B]),(true,.prod [.pow (Q39 A) 2]),(false,.prod [Q39 B])]
def Q3l (A B:List Q0b):List UInt8:=40::(Q15 A++41::42::40::(Q15 B++41::32::45::32::40::(Q15 A++41::94::50::32::43::32::40::(Q15 B++41::10::[]))))
theorem Qn7 {n most:Nat} (hn:n<=most) (hm:most<=9) {s:List UInt8} {A B:List Q0b} (hA:Q18 n A) (hB:Q18 n B) {d p:Nat} (ha:At s p (Q3l A B)):
 Q3o s most (d+2) p=.ok (Qde A B,p+(Q3l A B).length-1)/\At s (p+(Q3l A B).length-1) [10]:=by
 unfold Q3l at ha
 have hb0:=ha.byte.1
 have hs0:=ha.skip0 (by decide)
 --the first factor
 obtain ⟨f1,a1⟩:=Qje hn hm hA (d:=d) hs0 ha (by simp[nb,Q3f])
 obtain ⟨q1,hq1⟩:∃q1,p+(Q15 A).length+2=q1:=⟨_,rfl⟩
 rw[hq1] at f1 a1
 obtain ⟨b1,a1'⟩:=a1.byte
 have k1:Q07 s (q1+1)=q1+1:=a1'.skip0 (by decide)
 --the second
 obtain ⟨f2,a2⟩:=Qje hn hm hB (d:=d) k1 a1' (by simp[nb,Q3f])
 obtain ⟨q2,hq2⟩:∃q2,q1+1+(Q15 B).length+2=q2:=⟨_,rfl⟩
 rw[hq2] at f2 a2
 obtain ⟨b2,a2'⟩:=a2.byte
 obtain ⟨b3,a3⟩:=a2'.byte
 have k2:Q07 s (q2+1)=q2+1:=a2'.skip0 (by decide)
 obtain ⟨b4,a4⟩:=a3.byte
 have k3:Q07 s (q2+1+1)=q2+3:=by rw[Q35 b4];exact a4.skip0 (by decide)
 --the square
 obtain ⟨g3,a5⟩:=Ql0 hn hm hA (d:=d) k3 a4
 obtain ⟨q3,hq3⟩:∃q3,q2+3+(Q15 A).length+2=q3:=⟨_,rfl⟩
 have hq3':q2+1+1+1+(Q15 A).length+2=q3:=by omega
 try rw[hq3] at g3 a5
 try rw[hq3'] at g3 a5
 obtain ⟨b5,a6⟩:=a5.byte
 have k4:Q07 s q3=q3:=a5.skip0 (by decide)
 obtain ⟨b6,a7⟩:=a6.byte
 have k5:Q07 s (q3+1)=q3+1:=a6.skip0 (by decide)
 obtain ⟨b7,a8⟩:=a7.byte
 have k6:Q07 s (q3+1+1)=q3+3:=by rw[Q35 b7];exact a8.skip0 (by decide)
 obtain ⟨b8,a9⟩:=a8.byte
 have k7:Q07 s (q3+3)=q3+3:=a8.skip0 (by decide)
 obtain ⟨b9,a10⟩:=a9.byte
 have k8:Q07 s (q3+3+1)=q3+5:=by
  rw[Q35 (p:=q3+3+1) b9];exact a10.skip0 (by decide)
 --the last
 obtain ⟨f4,a11⟩:=Qje hn hm hB (d:=d) k8 a10 (by simp[nb,Q3f])
 obtain ⟨q4,hq4⟩:∃q4,q3+5+(Q15 B).length+2=q4:=⟨_,rfl⟩
 have hq4':q3+1+1+1+1+1+(Q15 B).length+2=q4:=by omega
 try rw[hq4] at f4 a11
 try rw[hq4'] at f4 a11
 have k9:Q07 s q4=q4:=a11.skip0 (by decide)
 have b10:=a11.byte.1
 have hlen:=Q0i b10 (by decide)
 have hend:p+(Q3l A B).length-1=q4:=by
  unfold Q3l
  simp only[List.length_cons,List.length_append,List.length_nil]
  omega
 rw[hend]
 refine ⟨?_,a11⟩
 have s0:Q3f (42::40::(Q15 B++41::32::45::32::40::(Q15 A++41::94::50::32::43::32::40::(Q15 B++41::10::[]))))=0:=by simp[Q3f]
 have s1:Q3f (32::45::32::40::(Q15 A++41::94::50::32::43::32::40::(Q15 B++41::10::[])))=1:=by simp[Q3f]
 have s2:Q3f [(10:UInt8)]=0:=by simp[Q3f]
 rw[s0] at f1
 change Q1r (Q3o s most (d+1)) true s most p=.ok (Q39 A,q1) at f1
 rw[s1] at f2
 rw[s2] at f4
 change Q1r (Q3o s most (d+1)) true s most (q3+3+1)=.ok (Q39 B,q4) at f4
 have kq1:Q07 s q1=q1:=a1.skip0 (by decide)
 obtain ⟨F,hF⟩:∃F,s.length=F+2:=⟨s.length-2,by omega⟩
 have t1:Q38 (Q3o s most (d+1)) true s most (s.length+1) p []=.ok (.prod [Q39 A,Q39 B],q2+1):=by
  rw[hF]
  unfold Q38
  rw[f1]
  simp only
  rw[kq1,if_pos b1]
  unfold Q38
  rw[f2]
  simp only
  rw[k2,b3,if_neg (by decide)]
  rfl
 have t2:Q38 (Q3o s most (d+1)) true s most (s.length+1) (q2+1+1) []=.ok (.prod [.pow (Q39 A) 2],q3+3):=by
  unfold Q38
  unfold Q1r
  rw[g3]
  simp only
  rw[k4,b5,if_pos rfl,k5,b6,if_pos (by decide)]
  simp only
  rw[k6,b8,if_neg (by decide)]
  rfl
 have t3:Q38 (Q3o s most (d+1)) true s most (s.length+1) (q3+3+1) []=.ok (.prod [Q39 B],q4):=by
  unfold Q38
  rw[f4]
  simp only
  rw[k9,b10,if_neg (by decide)]
  rfl
 show Q4e (Q3o s most (d+1)) true s most p=_
 unfold Q4e
 rw[hs0,hb0,if_neg (by decide)]
 rw[show s.length+1=(s.length)+1 from rfl]
 unfold Q7v
 rw[t1]
 simp only
 rw[k2,b3,if_neg (by decide),if_pos rfl,hF]
 unfold Q7v
 rw[t2]
 simp only
 rw[k7,b8,if_pos rfl]
 unfold Q7v
 rw[t3]
 simp only
 rw[k9,b10,if_neg (by decide),if_neg (by decide)]
 rfl
theorem Qjf {A B:List Q0b} (hA:Q18 1 A) (hB:Q18 1 B):Q4o (Q2l 0++Q3l A B)=Q2m 1 [(0,Qde A B)] []:=by
 obtain ⟨s,hs⟩:∃s,Q2l 0++Q3l A B=s:=⟨_,rfl⟩
 rw[hs]
 have ha:At s 0 (Q2l 0++Q3l A B):=by rw[hs];rfl
 have h6:=Q4f 0 (by decide)
 have h1:=At.fixed ha
 have h2:=At.app ha
 rw[h6,Nat.zero_add] at h2
 rw[h6] at h1
 obtain ⟨h3,h4⟩:=Qn7 (n:=1) (most:=1) (by decide) (by decide) hA hB (d:=14) h2
 have hl:s.length=6+(Q3l A B).length:=by rw[<-hs,List.length_append,h6]
 have hpos:1<=(Q3l A B).length:=by unfold Q3l;simp
 have hct:s.count 10=1:=by
  rw[<-hs]
  have e1:=Qdx A
  have e2:=Qdx B
  have e3:(Q2l 0).count 10=0:=by rw[Q2l,List.count_cons,List.count_append,Q4k];rfl
  unfold Q3l
  simp only[List.count_append,List.count_cons,e1,e2,e3,List.count_nil]
  decide
 have h5:Q07 s (6+(Q3l A B).length-1)=6+(Q3l A B).length-1:=h4.skip0 (by decide)
 have hline:Qax s 1 0 0=.ok (Qde A B,6+(Q3l A B).length-1+1):=by
  unfold Qax
  rw[h1]
  simp only[Nat.zero_add]
  rw[h3]
  simp only
  rw[h5,if_pos h4.byte.1]
 unfold Q4o
 rw[hct]
 rw[show min 1 4=1 from rfl]
 unfold Q40
 simp only[List.length_nil]
 rw[hline]
 simp only
 rw[if_neg (by omega)]
 rfl
end Go.Proofs.YtdilmfakkppgpaaGreatDoor
