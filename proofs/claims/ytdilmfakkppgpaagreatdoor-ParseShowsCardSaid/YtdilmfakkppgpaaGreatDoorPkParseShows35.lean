/- Part 35 of the proof of LawParseShows: RefMake, DeckP, DeckQ, DeckR, DeckS, DeckT. Condition: as each theorem says; none at the end. -/
import Derived.Test.YtdilmfakkppgpaaGreatDoorPkParseShows34
set_option maxRecDepth 100000
set_option maxHeartbeats 16000000
namespace Go.Proofs.YtdilmfakkppgpaaGreatDoor
open Go.RowKit WordsM
theorem Qf8:Tryz.prog.underlying 142=some (.slice 144):=by kernel_rfl
theorem Qha (W:World) (v0 v1 v2 v3:Value):(Instr.buildSlice 142 1 #[(0,.agg #[v0,v1,v2,v3])]).run Tryz.prog W=.ok (.slice (some ⟨W.heap.size,0,none⟩) 1 1) (W.alloc (.cells #[v0,v1,v2,v3] 144)):=by
 obtain ⟨i0,hi0,hz0,hz1,hz2⟩:=Q0u Qf1
 exact run_buildSlice W 142 144 1 _ #[v0,v1,v2,v3] i0 _ Qf8 hi0 hz0 (by rw[hz1];decide) (by rw[hz1];decide) (by rw[hz1];first|kernel_rfl|simp[Instr.fill,Value.cells])
def Qtc (w:World) (p:Q0f) (v:Value) (W:World):Prop:=∃v0 v1 v2 v3,v=.agg #[v0,v1,v2,v3]/\Q4p w W [p] [v0,v1,v2,v3]
def Qo5 (w:World) (p:Q0f) (v:Value) (W:World):Prop:=∃bl lit,v=.slice (some ⟨bl,0,none⟩) 1 1/\bl<W.heap.size/\W.heap[bl]?=some (.cells lit.toArray 144 (0,0))/\Q4p w W [p] lit
theorem Qf9 (w:World) (p:Q0f):Q2f (Qtc w p):=fun _ _ _ ⟨v0,v1,v2,v3,h1,h2⟩ hb=>⟨v0,v1,v2,v3,h1,h2.keep fun h=>h.step hb⟩
theorem Qco (w:World) (p:Q0f):Q2f (Qo5 w p):=fun _ _ _ ⟨bl,lit,h1,h2,h3,h4⟩ hb=>⟨bl,lit,h1,Nat.lt_of_lt_of_le h2 hb.size,(hb.block bl h2).trans h3,h4.keep fun h=>h.step hb⟩
theorem Qo6 {w U W:World} {a:Option Addr} {i c:Nat} {out:List Q0f} {xs:List Value} (hst:Q3q w U a i c out xs) (hb:Below U.heap.size U W) {p:Q0f} {v:Value} (hv:Qo5 w p v W) (hi:i<=1000) (ty:TypeId):
 ∃a' c' W' xs',(Builtin.append_ #[142,142] ty #[.slice a i c,v]).run Tryz.prog W=.ok (.slice a' (i+1) c') W'/\Q3q w W' a' (i+1) c' (out++[p]) xs':=by
 obtain ⟨bl,lit,rfl,hbl,hcs,henc⟩:=hv
 obtain ⟨h1,h2,h3,h4⟩:=hst.step hb
 have hll:lit.length=4:=by rw[henc.len];rfl
 obtain ⟨a8,c8,w8,hrun8,hrow8,hgr8,hat8⟩:=Q4h ty W w.heap.size h4.size a i c xs h2 (some ⟨bl,0,none⟩) 1 1 lit (by rw[hll]) (.inr ⟨_,rfl,fun j u hj=>by
  rw[Addr.add_lit,Nat.zero_add,cell_of_row _ _ _ _ _ _ hcs]
  simpa using hj⟩) (fun u hu=>henc.one u hu) (by omega)
 refine ⟨a8,c8,w8,_,hrun8,by rw[List.length_append,h1];rfl,hrow8,Q4p.app (henc.keep (fun h=>h2.grownD hgr8 h)) (h3.keep (fun h=>h2.grownD hgr8 h)),?_⟩
 exact h4.trans ⟨hgr8.os,hgr8.tape,hgr8.output,hgr8.size,fun z hz=>hgr8.block z (Nat.lt_of_lt_of_le hz h4.size) (fun e=>by
  cases a with
  |none=>simp at e
  |some q=>simp only[Option.map_some,Option.some.injEq] at e;have:=(Q1m.lt.row2_blk h2.1 rfl).1;omega)⟩
theorem Q3q.terms {w W:World} {a:Option Addr} {n c:Nat} {ts:List Q0f} {xs:List Value} (h:Q3q w W a n c ts xs):Qo2 W a n c ts:=by
 obtain ⟨h1,h2,h3,h4⟩:=h
 have hcap:=h2.1.cap
 refine ⟨h1,hcap.1,by have:=hcap.2;simpa[maxLen] using this,?_⟩
 rcases h2.1.form with ⟨_,h0,_⟩|⟨g,cur,rfl,_,hlt,_⟩
 ·exact .inl (List.eq_nil_of_length_eq_zero (by rw[h1];exact h0))
 ·refine .inr ⟨g,0,rfl,hlt,xs,h3.old fun h=>h.step h4,fun j u hj=>?_⟩
  rw[Nat.zero_add]
  exact h2.1.cell0 hj
theorem Q2j.pair {w w':World} {X:Except Int (List Q0f)} {r:Ending} (h:Q2j w X r w'):∃x er,r=.returned (.tuple #[x,.int .i64 er]):=by
 obtain ⟨_,h⟩:=h
 cases X with
 |error e=>exact ⟨_,_,h⟩
 |ok P=>obtain ⟨a,n,c,ms,h,_⟩:=h;exact ⟨_,_,h⟩
theorem Q2j.from_ {w0 w w':World} {X:Except Int (List Q0f)} {r:Ending} (h:Q2j w X r w') (hb:Below w0.heap.size w0 w):Q2j w0 X r w':=by
 obtain ⟨h1,h2⟩:=h
 refine ⟨Below.next0 hb h1,?_⟩
 cases X with
 |error e=>exact h2
 |ok P=>
  obtain ⟨a,n,c,ms,h3,h4,h5,h6,h7⟩:=h2
  exact ⟨a,n,c,ms,h3,h4,h5,h6,h7.more hb.size⟩
structure Qfa (W:World) (b oi:Nat) (x:Q04) (aw:Option Addr) (lw cw:Nat) (ae:Option Addr) (le ce:Nat):Prop where
 c0:W.cell? ⟨b,oi,none⟩=some (.bool x.neg)
 c1:W.cell? ⟨b,oi+1,none⟩=some (.int .i64 x.exp)
 c2:W.cell? ⟨b,oi+2,none⟩=some (.slice aw lw cw)
 c3:W.cell? ⟨b,oi+3,none⟩=some (.slice ae le ce)
 wi:WordsIn W aw lw cw x.ws
theorem Qfa.step {W W':World} {b oi:Nat} {x:Q04} {aw:Option Addr} {lw cw:Nat} {ae:Option Addr} {le ce:Nat} (h:Qfa W b oi x aw lw cw ae le ce) (hb:Below W.heap.size W W'):Qfa W' b oi x aw lw cw ae le ce:=by
 have hlt:b<W.heap.size:=block_lt_of_cell h.c0
 exact ⟨(hb.cell (p:=⟨b,oi,none⟩) hlt).trans h.c0,(hb.cell (p:=⟨b,oi+1,none⟩) hlt).trans h.c1,(hb.cell (p:=⟨b,oi+2,none⟩) hlt).trans h.c2,(hb.cell (p:=⟨b,oi+3,none⟩) hlt).trans h.c3,h.wi.step hb⟩
def Qtn (w:World) (ts:List Q0f) (s6 s7:Value) (wr:World):Prop:=∃(i:Nat) (a:Option Addr) (c:Nat) (xs:List Value),s6=.slice a i c/\s7=.int .i64 (i:Int)/\i<=ts.length/\Q3q w wr a i c (ts.take i) xs
theorem Qfb (a:Option Addr) (n c:Nat) (ms:List Q04) (k:Nat) (w:World) (h:Q0e w a n c ms) (hr:∀m∈ms,Q0v k m.es/\Q0g m.neg m.exp m.ws) (hk1:1<=k) (hk4:k<=4) (hn:n<=1000):
 Calls Tryz.prog 48 #[.slice a n c,.int .i64 (k:Int)] w (Q2j w (Q22 (ms.map Q04.term))):=by
 have hln:=h.1
 have hcm:=Nat.le_trans h.2.1 h.2.2.1
 have hk1':¬(k:Int)<1:=by omega
 have hk4':¬4<(k:Int):=by omega
 obtain ⟨X,hX⟩:∃X,Q22 (ms.map Q04.term)=X:=⟨_,rfl⟩
 rw[hX]
 have H:=Xh3 h hr hX
 clear h hr hX
 go_enter Tryz.func48,Tryz.ntmps48
 go_wp2_with fail
 go_loopw [6,7] (fun s6 s7 wr=>Qtn w (ms.map Q04.term) s6 s7 wr) (fun _ iv _=>n-(intOf iv).toNat)
 case atStart=>exact ⟨0,none,0,[],rfl,rfl,Nat.zero_le _,rfl,Q3h.nil_ _ _ _ _ _,rfl,Below.refl _ _⟩
 case round=>
  obtain ⟨i,a1,c1,xs,rfl,rfl,hi,hst⟩:=hrel
  rw[List.length_map,hln] at hi
  by_cases hlt:i<n
  ·have hlt':(i:Int)<(n:Int):=by omega
   obtain ⟨x,hx⟩:∃x,ms[i]?=some x:=⟨_,List.getElem?_eq_getElem (by omega)⟩
   obtain ⟨b,o,rfl,hb0,hat⟩:∃b o,a=some ⟨b,o,none⟩/\b<w.heap.size/\∀j m,ms[j]?=some m->Q3g w b (o+j*4) m:=by
    rcases (Xo0 H).2.2.2 with h0|h0
    ·rw[h0] at hx;simp at hx
    ·exact h0
   obtain ⟨aw,lw,cw,ae,le,ce,k0,k1,k2,k3,hw,he,hx1,hx2⟩:=hat i x hx
   have hrx:=(Xo1 H) x (List.mem_of_getElem? hx)
   have hbr:=hst.2.2.2
   have hit:Qfa wr b (o+i*4) x aw lw cw ae le ce:=(⟨k0,k1,k2,k3,hw⟩:Qfa w b (o+i*4) x aw lw cw ae le ce).step hbr
   have hmono:=Qar x.neg x.exp aw lw cw x.ws ae le ce x.es k wr hit.wi (he.step hbr) hk4 hx1 hx2
   rw[decide_eq_true hrx] at hmono
   have k0:=hit.c0
   have k1:=hit.c1
   have k2:=hit.c2
   have k3:=hit.c3
   have htk:(ms.map Q04.term).take (i+1)=(ms.map Q04.term).take i++[x.term]:=Q7m (by rw[List.getElem?_map,hx];rfl)
   have HS:=Xh5 hst hit hrx he htk
   clear hst hit hrx he htk hbr hat hw hx hx1 hx2
   go_upto_region 9 with (go_at_call 92;refine hmono.mono ?_;rintro r w3 ⟨rfl,hb3⟩;have HB:=Lib.hid hb3;clear hb3 hmono)
   refine Q46 (Φ:=fun U=>Below wr.heap.size wr U) (P:=fun U=>Code.wp _ _ _ _ U) _ HB.out ?_
   intro U hU
   have HC:=Lib.hid (fun W (h:Below U.heap.size U W)=>((Xo1 HS).step hU).step h)
   have HT:=Xh4 ((Xo0 HS).step hU) (show i<=1000 by omega) (Xo2 HS).2 (Xo3 HS)
   clear hU
   refine Q6i (by kernel_rfl) 14 rfl (fun W=>Below U.heap.size U W) (fun _ _ h h'=>Below.next0 h h') (Q68 [.slice a1 i c1,.slice (some ⟨b,o,none⟩) n c,.int .i64 (i:Int),.pointer (some ⟨b,o+i*4,none⟩),.pointer (some ⟨b,o+i*4,none⟩),.agg #[.bool x.neg,.int .i64 x.exp,.slice aw lw cw],undef,.slice (some ⟨b,o,none⟩) n c,.int .i64 (i:Int),.pointer (some ⟨b,o+i*4,none⟩),.pointer (some ⟨b,o+i*4+3,none⟩),.slice ae le ce,undef,undef] (Q5y [(6,fun u w=>Q92 w u (Q24 x.neg x.exp x.ws)),(12,Qtc w x.term),(13,Qo5 w x.term)])) (Q0t (Q13 (Qt4 (Q39 _) (Qf9 _ _) (Qco _ _)))) (fun v W'=>∃a8 c8 xs8,v=.slice a8 (i+1) c8/\Q3q w W' a8 (i+1) c8 ((ms.map Q04.term).take i++[x.term]) xs8) (by kernel_rfl) (by kernel_rfl) (by kernel_rfl) (by kernel_rfl) (Q0a U) ?_ ?_ ?_
   ·skip
    refine ⟨fun A W hW hag hdep=>?_,?_⟩
    ·have e6:A.tmps[6]?.getD undef=.slice a1 i c1:=Q03 (hag.keep (t:=6) (by kernel_rfl) rfl)
     refine Q02 rfl ?_
     refine Q01 (u:=.slice a1 i c1) ?_ ((Q00 rfl).2 rfl)
     simp[go_sem,e6]
    refine ⟨fun A W hW hag hdep=>?_,?_⟩
    ·have e0:A.tmps[0]?.getD undef=.slice (some ⟨b,o,none⟩) n c:=Q03 (hag.keep (t:=0) (by kernel_rfl) rfl)
     refine Q02 rfl ?_
     refine Q01 (u:=.slice (some ⟨b,o,none⟩) n c) ?_ ((Q00 rfl).2 rfl)
     simp[go_sem,e0]
    refine ⟨fun A W hW hag hdep=>?_,?_⟩
    ·have e7:A.tmps[7]?.getD undef=.int .i64 (i:Int):=Q03 (hag.keep (t:=7) (by kernel_rfl) rfl)
     refine Q02 rfl ?_
     refine Q01 (u:=.int .i64 (i:Int)) ?_ ((Q00 rfl).2 rfl)
     simp[go_sem,e7]
    refine ⟨fun A W hW hag hdep=>?_,?_⟩
    ·have e28:A.tmps[28]?.getD undef=.slice (some ⟨b,o,none⟩) n c:=Q03 ((Q00 rfl).1 (hdep 1 (by decide)))
     have e29:A.tmps[29]?.getD undef=.int .i64 (i:Int):=Q03 ((Q00 rfl).1 (hdep 2 (by decide)))
     refine Q02 rfl ?_
     refine Q01 (u:=.pointer (some ⟨b,o+i*4,none⟩)) ?_ ((Q00 rfl).2 rfl)
     simp[go_sem,e28,e29,hlt']
    refine ⟨fun A W hW hag hdep=>?_,?_⟩
    ·have e30:A.tmps[30]?.getD undef=.pointer (some ⟨b,o+i*4,none⟩):=Q03 ((Q00 rfl).1 (hdep 3 (by decide)))
     refine Q02 rfl ?_
     refine Q01 (u:=.pointer (some ⟨b,o+i*4,none⟩)) ?_ ((Q00 rfl).2 rfl)
     simp[go_sem,e30]
    refine ⟨fun A W hW hag hdep=>?_,?_⟩
    ·have e31:A.tmps[31]?.getD undef=.pointer (some ⟨b,o+i*4,none⟩):=Q03 ((Q00 rfl).1 (hdep 4 (by decide)))
     refine Q02 rfl ?_
     refine Q01 (u:=.agg #[.bool x.neg,.int .i64 x.exp,.slice aw lw cw]) ?_ ((Q00 rfl).2 rfl)
     simp[go_sem,e31,(HC.out W hW).c0,(HC.out W hW).c1,(HC.out W hW).c2]
    refine ⟨fun A W hW hag hdep=>?_,?_⟩
    ·have e32:A.tmps[32]?.getD undef=.agg #[.bool x.neg,.int .i64 x.exp,.slice aw lw cw]:=Q03 ((Q00 rfl).1 (hdep 5 (by decide)))
     refine Q02 rfl ?_
     refine Q0q (f:=24) (args:= #[.agg #[.bool x.neg,.int .i64 x.exp,.slice aw lw cw]]) (by simp[go_sem,e32]) ((Qnx x.neg x.exp aw lw cw x.ws W (HC.out W hW).wi (Xo2 HT)).mono ?_)
     rintro e w2' ⟨u',rfl,hv',hb'⟩
     exact ⟨_,rfl,hb',(Q08 rfl).2 hv'⟩
    refine ⟨fun A W hW hag hdep=>?_,?_⟩
    ·have e0:A.tmps[0]?.getD undef=.slice (some ⟨b,o,none⟩) n c:=Q03 (hag.keep (t:=0) (by kernel_rfl) rfl)
     refine Q02 rfl ?_
     refine Q01 (u:=.slice (some ⟨b,o,none⟩) n c) ?_ ((Q00 rfl).2 rfl)
     simp[go_sem,e0]
    refine ⟨fun A W hW hag hdep=>?_,?_⟩
    ·have e7:A.tmps[7]?.getD undef=.int .i64 (i:Int):=Q03 (hag.keep (t:=7) (by kernel_rfl) rfl)
     refine Q02 rfl ?_
     refine Q01 (u:=.int .i64 (i:Int)) ?_ ((Q00 rfl).2 rfl)
     simp[go_sem,e7]
    refine ⟨fun A W hW hag hdep=>?_,?_⟩
    ·have e34:A.tmps[34]?.getD undef=.slice (some ⟨b,o,none⟩) n c:=Q03 ((Q00 rfl).1 (hdep 7 (by decide)))
     have e35:A.tmps[35]?.getD undef=.int .i64 (i:Int):=Q03 ((Q00 rfl).1 (hdep 8 (by decide)))
     refine Q02 rfl ?_
     refine Q01 (u:=.pointer (some ⟨b,o+i*4,none⟩)) ?_ ((Q00 rfl).2 rfl)
     simp[go_sem,e34,e35,hlt']
    refine ⟨fun A W hW hag hdep=>?_,?_⟩
    ·have e36:A.tmps[36]?.getD undef=.pointer (some ⟨b,o+i*4,none⟩):=Q03 ((Q00 rfl).1 (hdep 9 (by decide)))
     refine Q02 rfl ?_
     refine Q01 (u:=.pointer (some ⟨b,o+i*4+3,none⟩)) ?_ ((Q00 rfl).2 rfl)
     simp[go_sem,e36]
    refine ⟨fun A W hW hag hdep=>?_,?_⟩
    ·have e37:A.tmps[37]?.getD undef=.pointer (some ⟨b,o+i*4+3,none⟩):=Q03 ((Q00 rfl).1 (hdep 10 (by decide)))
     refine Q02 rfl ?_
     refine Q01 (u:=.slice ae le ce) ?_ ((Q00 rfl).2 rfl)
     simp[go_sem,e37,(HC.out W hW).c3]
    refine ⟨fun A W hW hag hdep=>?_,?_⟩
    ·have e38:A.tmps[38]?.getD undef=.slice ae le ce:=Q03 ((Q00 rfl).1 (hdep 11 (by decide)))
     refine Q02 rfl ?_
     obtain ⟨n8,a8,l8,c8,q8,v8,hv8,hd8,hcn8,hD8⟩:=(Q08 rfl).1 (hdep 6 (by decide))
     have e33:=Q03 hv8
     refine Q8c (w':=W) (u:=.agg #[.bool n8,.slice a8 l8 c8,.int .i64 q8,.slice ae le ce]) (by simp[go_sem,e33,e38]) (Below.refl _ _) ((Q08 rfl).2 ⟨_,_,_,_,rfl,n8,a8,l8,c8,q8,v8,ae,le,ce,[],rfl,⟨hd8,hcn8,hD8,(Xe3 HT)⟩,rfl⟩)
    refine ⟨fun A W hW hag hdep=>?_,?_⟩
    ·refine Q02 rfl ?_
     obtain ⟨v0,v1,v2,v3,hv9,henc9⟩:=(Q08 rfl).1 (hdep 12 (by decide))
     have e39:A.eval (.tmp 39)=.agg #[v0,v1,v2,v3]:=hv9
     refine Q8c (Q8d 142 1 #[(0,.tmp 39)] (by rfl) (parts':= #[(0,.agg #[v0,v1,v2,v3])]) (by simp[e39]) (Qha W _ _ _ _)) ((Below.refl _ _).alloc (Nat.le_refl _) _) ((Q08 rfl).2 ⟨W.heap.size,[v0,v1,v2,v3],rfl,Q0h _ _,heap_alloc_new _ _,henc9.keep (fun h=>h.step ((Below.refl _ _).alloc (Nat.le_refl _) _))⟩)
    exact trivial
   ·refine And.intro ?_ (And.intro (by decide) ?_)
    ·intro A W hW hag hdep
     have h27:A.eval (.tmp 27)=.slice a1 i c1:=(Q00 rfl).1 (hdep 0 (by decide))
     have hv:=(Q08 rfl).1 (hdep 13 (by decide))
     obtain ⟨a8,c8,W8,xs8,hrun8,hst8⟩:=Qo6 (Xo0 HT) hW hv (Xo1 HT) 142
     rw[Q6y (.tmp 27) (.tmp 40) 142 142 (by rfl) h27 rfl hrun8]
     exact ⟨a8,c8,xs8,rfl,hst8⟩
    ·intro a w hag;rfl
   intro vs W1 hfin hv15
   obtain ⟨a8,c8,xs8,hv8,hst8⟩:=hfin
   have h15:=hv15.trans hv8
   rw[<-(Xe4 HS)] at hst8
   have HF:=Lib.hid hst8
   clear hst8 hv8
   simp only[Q18,Act.put,List.setIfInBounds_toArray,List.set_cons_zero,List.set_cons_succ,h15]
   clear h15 hv15
   go_wp2_with fail
   exact ⟨⟨i+1,a8,c8,xs8,rfl,congrArg (Value.int .i64) (by omega),by rw[List.length_map,hln];omega,HF.out⟩,by simp only[intOf];omega⟩
  ·have hlt':¬(i:Int)<(n:Int):=by omega
   have htk:(ms.map Q04.term).take i=ms.map Q04.term:=List.take_of_length_le (by rw[List.length_map];omega)
   rw[htk] at hst
   have hg:=Qkp a1 i c1 (ms.map Q04.term) k 69632 wr hst.terms (fun p hp=>by
    obtain ⟨m,hm,rfl⟩:=List.mem_map.1 hp
    exact ((Xo1 H) m hm).1.1) (fun p hp=>by
    obtain ⟨m,hm,rfl⟩:=List.mem_map.1 hp
    obtain ⟨j,hj,rfl⟩:=List.getElem_of_mem hm
    rcases (Xo0 H).2.2.2 with h0|⟨b,o,_,_,hat⟩
    ·rw[h0] at hj;simp at hj
    ·obtain ⟨_,_,_,_,_,_,_,_,_,_,hw,_⟩:=hat j _ (List.getElem?_eq_getElem hj)
     exact Qpz (Qb4 ((Xo1 H) _ hm).2 hw.low) (by omega)) (by omega) (by omega) hk1 (by omega)
   rw[(Xe2 H)] at hg
   have HS:=Lib.hid hst.2.2.2
   clear hst htk
   go_wp2_with (go_at_call 93;refine hg.mono ?_;rintro r w3 hPO;obtain ⟨x9,er9,rfl⟩:=hPO.pair;have H3:=Lib.hid hPO;clear hPO)
   exact ⟨rfl,.tuple #[x9,.int .i64 er9],by simp[results,go_sem],H3.out.from_ HS.out⟩
def Qs2 (b i:Nat) (n:Nat) (w:World) (e:Ending) (w':World):Prop:=(∃x:Nat,x<n/\e=.returned (.int .i64 (x:Int)))/\Q6g w' b (i+1)/\Q0m (·=b) w w'
theorem Qqa (b i n:Nat) (w:World) (h:Q6g w b i) (hi:i<=1000000) (h0:0<n) (hn:n<=1000000):
 Calls Tryz.prog 14 #[.pointer (some ⟨b,0,none⟩),.int .i64 (n:Int)] w (Qs2 b i n w):=by
 have hc:=Q8s b i w h hi
 have HC:=Lib.hid hc
 clear hc h
 go_enter Tryz.func14,Tryz.ntmps14
 go_wp2_with (refine HC.out.mono ?_;rintro e w1 ⟨⟨x,hx,rfl⟩,hd,ht⟩;(have HD:=Xh2 hd ht);clear hd ht)
 go_ret
 have hm:(x:Int)%(n:Int)=((x%n:Nat):Int):=by norm_cast
 have hlt:x%n<n:=Nat.mod_lt _ h0
 refine ⟨⟨x%n,hlt,?_⟩,HD.out⟩
 show Ending.returned (.int .i64 (wrap64 ((x:Int)%(n:Int))))=_
 rw[hm]
 congr 2
 unfold wrap64;omega
theorem Qs3 (b i:Nat) (w:World) (h:Q6g w b i) (hi:i<=1000000):
 Calls Tryz.prog 11 #[.pointer (some ⟨b,0,none⟩)] w fun e w'=>(∃n:Nat,1<=n/\n<=4/\e=.returned (.int .i64 (n:Int)))/\Q6g w' b (i+1)/\Q0m (·=b) w w':=by
 have hc:=Qqa b i 4 w h hi (by decide) (by decide)
 have HC:=Lib.hid hc
 clear hc h
 go_enter Tryz.func11,Tryz.ntmps11
 go_wp2_with (refine HC.out.mono ?_;rintro e w1 ⟨⟨x,hx,rfl⟩,hd,ht⟩;(have HD:=Xh2 hd ht);clear hd ht)
 go_ret
 exact ⟨⟨1+x,by omega,by omega,by rw[show (1:Int)+(x:Int)=((1+x:Nat):Int) by omega];rfl⟩,HD.out⟩
theorem Qo7 (b i:Nat) (w:World) (h:Q6g w b i) (hi:i<=100000):
 Calls Tryz.prog 22 #[.pointer (some ⟨b,0,none⟩)] w fun e w'=>Qno e w'/\Q6g w' b (i+1)/\Q0m (·=b) w w':=by
 have hB0:∀o,Below w.heap.size w (w.alloc o):=fun o=>(Below.refl _ _).alloc (Nat.le_refl _) _
 have hl0:=Q0h w (.cells #[.bool false,.int .i64 0,.slice none 0 0] 41)
 have hN0:=Q06.new w (.bool false) (.int .i64 0) (.slice none 0 0) 41
 have hbl:=h.lt
 have hn1:=Q8s b i (w.alloc (.cells #[.bool false,.int .i64 0,.slice none 0 0] 41)) (h.call (hB0 _)) (by omega)
 have HM:=Xh2 hn1 hN0
 clear hn1 hN0 h
 go_enter Tryz.func22,Tryz.ntmps22
 go_upto_region 1 with fail
 go_cut [3] (fun v wx=>∃x:Nat,x<18446744073709551616/\v=.int .u64 (x:Int)/\Q6g wx b (i+1)/\Q0m (·=b) (w.alloc (.cells #[.bool false,.int .i64 0,.slice none 0 0] 41)) wx)
 case first=>
  go_wp2_with (refine (Xo0 HM).mono ?_;rintro e w1 ⟨⟨x,hx,rfl⟩,hd1,ht1⟩;have HD1:=Xh2 hd1 ht1;clear hd1 ht1)
  go_meet
  exact ⟨x,hx,rfl,(Xo0 HD1),(Xe1 HD1)⟩
 obtain ⟨x,hx,rfl,hd1,ht1⟩:=hcut
 have HD1:=Xh2 hd1 ht1
 clear hd1 ht1
 obtain ⟨m,hm⟩:∃m,x%2=m:=⟨_,rfl⟩
 have hand:bits .and .u64 (x:Int) 1=(m:Int):=by rw[show (1:Int)=((1:Nat):Int) from rfl,u64_and_nat x 1 hx (by decide),nat_mask1,hm]
 obtain ⟨neg,hneg⟩:∃neg,((m:Int)==1)=neg:=⟨_,rfl⟩
 obtain ⟨e0,he0,he1,he2⟩:∃e0:Int,(x:Int) / 128%9=e0/\0<=e0/\e0<=8:=⟨_,rfl,by omega,by omega⟩
 obtain ⟨y,hy⟩:∃y,x / 2=y:=⟨_,rfl⟩
 have hyI:(x:Int) / 2=(y:Int):=by omega
 obtain ⟨p,hp,hpl⟩:=Qrv y 63 (by omega) (by decide)
 have hpI:bits .and .u64 (y:Int) 63=(p:Int):=hp
 clear hy hp hm
 have hNc:=(Xe1 HM).turn (Xe1 HD1) hl0 (by omega)
 have hlc:=Nat.lt_of_lt_of_le hl0 (Xe1 HD1).size
 have htc:Q0m (·=b) w wc:=(Q0m.of_below (hB0 _) _).trans0 (Xe1 HD1)
 have HN:=Xh3 hNc hlc htc
 clear hNc hlc htc
 go_wp2_with (refine (Qgw neg (some ⟨wc.heap.size,0,none⟩) 1 1 [p] (e0-6) (wc.alloc (.cells #[.int .u64 (p:Int)] 74)) (Qrw wc p (hpl) 74) (by decide) (by omega) (by omega)).mono ?_;rintro e w2 ⟨⟨neg2,e2,a2,n2,c2,L,rfl,hnum,hW⟩,hb2⟩;have hbx:=Below.next0 ((Below.refl wc.heap.size wc).alloc (Nat.le_refl _) (.cells #[.int .u64 (p:Int)] 74)) hb2;have hNN:=(Xo0 HN).step hbx (Xo1 HN);have hc0:=hNN.c0;have hc1:=hNN.c1;have hc2:=hNN.c2;have hf0:=hNN.f0;have hf1:=hNN.f1;have hf2:=hNN.f2;have hd1':=hNN.d1 (.bool neg2);have hd2':=hNN.d2 (.bool neg2) (.int .i64 e2);have HB2:=Xh5 hNN ((Xe2 HN).trans0 (Q0m.of_below hbx _)) hW hnum hbx;clear hNN hbx hW hnum hb2)
 have hS5:=(Xo0 HB2).store (.bool neg2) (.int .i64 e2) (.slice a2 n2 c2)
 have k0:=hS5.c0
 have k1:=hS5.c1
 have k2:=hS5.c2
 have ht6:=(((Xo1 HB2).newSet (p:=⟨w.heap.size,0,none⟩) (Nat.le_refl _) (.bool neg2)).newSet (p:=⟨w.heap.size,1,none⟩) (Nat.le_refl _) (.int .i64 e2)).newSet (p:=⟨w.heap.size,2,none⟩) (Nat.le_refl _) (.slice a2 n2 c2)
 have ht7:Q0m (fun k=>k=w.heap.size) wc (((w2.setCell ⟨w.heap.size,0,none⟩ (.bool neg2)).setCell ⟨w.heap.size,1,none⟩ (.int .i64 e2)).setCell ⟨w.heap.size,2,none⟩ (.slice a2 n2 c2)):=(((Q0m.of_below (Xe4 HB2) _).trans0 (Q0m.setCell (fun k=>k=w.heap.size) w2 (p:=⟨w.heap.size,0,none⟩) rfl (.bool neg2))).trans0 (Q0m.setCell (fun k=>k=w.heap.size) _ (p:=⟨w.heap.size,1,none⟩) rfl (.int .i64 e2))).trans0 (Q0m.setCell (fun k=>k=w.heap.size) _ (p:=⟨w.heap.size,2,none⟩) rfl (.slice a2 n2 c2))
 have hd7:=(Xo0 HD1).turn ht7 (fun k hk=>by omega)
 have hWw:=(Xo2 HB2)
 have hW6:WordsIn _ a2 n2 c2 L:=⟨hWw.len,hWw.cap,hWw.most,hWw.low,(hWw.rd.store3 (Xo0 HB2) (fun _=>by simp[nv]) (fun _=>by simp[nv]) (fun _=>by simp[nv]) (.bool neg2) (.int .i64 e2) (.slice a2 n2 c2)).more (Q1e _ _ _ _ _)⟩
 clear hS5 hc0 hc1 hc2 hf0 hf1 hf2 hd1' hd2' hWw ht7
 generalize World.setCell _ _ _=W5 at k0 k1 k2 ht6 hW6 hd7⊢
 exact ⟨rfl,.agg #[.bool neg2,.int .i64 e2,.slice a2 n2 c2],by simp[results,go_sem,k0,k1,k2],⟨neg2,e2,a2,n2,c2,L,rfl,(Xo3 HB2),hW6⟩,hd7,ht6⟩
structure Q35 (W:World) (g:Nat) (E:List Int):Prop where
 cell:∀j x,E[j]?=some x->W.cell? ⟨g,j,none⟩=some (.int .i64 x)
 free:∀j,W.frozen? ⟨g,j,none⟩=false
 lt:g<W.heap.size
theorem Q35.new (W:World) (n:Nat):Q35 (W.alloc (.cells (Array.replicate n (nv .i64 0)) 3)) W.heap.size (List.replicate n 0):=by
 refine ⟨fun j x hx=>?_,fun j=>frozen_of_row _ _ _ _ _ (heap_alloc_new _ _),Q0h _ _⟩
 rw[cell_of_row _ _ _ _ _ _ (heap_alloc_new _ _)]
 rw[List.getElem?_replicate] at hx
 split at hx
 ·rename_i h
  injection hx with hx
  subst hx
  simp[h,nv]
 ·cases hx
theorem Q35.turn {fp:Nat->Prop} {w w':World} {g:Nat} {E:List Int} (h:Q35 w g E) (ht:Q0m fp w w') (hn:¬fp g):Q35 w' g E:=
 ⟨fun j x hx=>(ht.cell (p:=⟨g,j,none⟩) h.lt hn).trans (h.cell j x hx),fun j=>(ht.frozen (p:=⟨g,j,none⟩) h.lt hn).trans (h.free j),Nat.lt_of_lt_of_le h.lt ht.size⟩
theorem Q35.set {w:World} {g r:Nat} {E:List Int} {y:Int} (h:Q35 w g E) (hy:E[r]?=some y) (z:Int):Q35 (w.setCell ⟨g,r,none⟩ (.int .i64 z)) g (E.set r z):=by
 refine ⟨fun j x hx=>?_,fun j=>(World.frozen?_setCell _ _ _ _).trans (h.free j),by rw[World.size_setCell];exact h.lt⟩
 by_cases e:r=j
 ·subst e
  rw[List.getElem?_set_self (List.getElem?_eq_some_iff.1 hy).1] at hx
  injection hx with hx
  subst hx
  exact World.cell?_setCell_same' _ _ _ (by rw[h.cell r y hy];rfl)
 ·rw[List.getElem?_set_ne e] at hx
  exact (World.cell?_setCell_other _ _ _ _ (by simp;try omega)).trans (h.cell j x hx)
theorem Qfc:∀{E:List Int} {r:Nat} {y:Int},E[r]?=some y->(E.set r (y+1)).sum=E.sum+1
 |[],r,y,h=>by simp at h
 |x::t,0,y,h=>by
  simp only[List.getElem?_cons_zero,Option.some.injEq] at h
  subst h
  simp only[List.set_cons_zero,List.sum_cons];omega
 |x::t,r+1,y,h=>by
  simp only[List.set_cons_succ,List.sum_cons]
  rw[Qfc (by simpa using h)];omega
theorem Q7n:∀{E:List Int} {r:Nat} {y:Int},(∀x∈E,0<=x)->E[r]?=some y->y<=E.sum
 |[],r,y,_,h=>by simp at h
 |x::t,0,y,h0,h=>by
  simp only[List.getElem?_cons_zero,Option.some.injEq] at h
  subst h
  have:0<=t.sum:=sum0 fun z hz=>h0 z (List.mem_cons_of_mem _ hz)
  rw[List.sum_cons];omega
 |x::t,r+1,y,h0,h=>by
  have:=Q7n (E:=t) (r:=r) (fun z hz=>h0 z (List.mem_cons_of_mem _ hz)) (by simpa using h)
  have:=h0 x (List.mem_cons_self ..)
  rw[List.sum_cons];omega
where
 sum0:∀{E:List Int},(∀x∈E,0<=x)->0<=E.sum
 |[],_=>by simp
 |x::t,h=>by
  have:=sum0 (E:=t) fun z hz=>h z (List.mem_cons_of_mem _ hz)
  have:=h x (List.mem_cons_self ..)
  rw[List.sum_cons];omega
def Qiq (w:World) (b i n deg:Nat) (s8:Value) (wr:World):Prop:=∃(kk q:Nat) (E:List Int),s8=.int .i64 (kk:Int)/\E.length=n/\(∀x∈E,0<=x)/\E.sum+kk<=deg/\Q35 wr w.heap.size E/\Q6g wr b q/\q+kk<=i+1+deg/\Q0m (·=b) w wr
theorem Qkq {w w2:World} {b i n deg kk q r:Nat} {E:List Int} {y:Int} (hln:E.length=n) (h0:∀x∈E,0<=x) (hs:E.sum+(kk+1:Nat)<=deg) (hr:Q35 w2 w.heap.size E) (hd:Q6g w2 b q) (hq:q+kk<=i+1+deg) (ht:Q0m (·=b) w w2) (hy:E[r]?=some y) (hb:b<w.heap.size):
 Qiq w b i n deg (.int .i64 (kk:Int)) (w2.setCell ⟨w.heap.size,r,none⟩ (.int .i64 (y+1))):=by
 refine ⟨kk,q,E.set r (y+1),rfl,by rw[List.length_set];exact hln,fun x hx=>?_,by rw[Qfc hy];omega,hr.set hy _,?_,hq,ht.newSet (p:=⟨w.heap.size,r,none⟩) (Nat.le_refl _) _⟩
 ·rcases List.mem_or_eq_of_mem_set hx with h|rfl
  ·exact h0 x h
  ·have:=h0 y (List.mem_of_getElem? hy);omega
 ·exact hd.turn (Q0m.setCell (fun k=>k=w.heap.size) w2 (p:=⟨w.heap.size,r,none⟩) rfl _) fun k hk=>by omega
theorem Qkr (b i n deg:Nat) (w:World) (h:Q6g w b i) (hi:i<=100000) (h1:1<=n) (hn:n<=4) (hd:deg<=8):
 Calls Tryz.prog 94 #[.pointer (some ⟨b,0,none⟩),.int .i64 (n:Int),.int .i64 (deg:Int)] w fun e w'=>(∃g E q,e=.returned (.slice (some ⟨g,0,none⟩) n n)/\w.heap.size<=g/\g<w'.heap.size/\Q0i w' (some ⟨g,0,none⟩) n n E/\Q0v n E/\Q6g w' b q/\q<=i+1+deg)/\Q0m (·=b) w w':=by
 have hmk:=run_make_row' (P:=Tryz.prog) 42 3 (.int .i64 0) 8 Tryz.underlying42 Q79 rfl .i64 .i64 n (by omega) (by omega)
 rw[Q1r] at hmk
 have hbl:=h.lt
 have hB0:Below w.heap.size w (w.alloc (.cells (Array.replicate n (nv .i64 0)) 3)):=(Below.refl _ _).alloc (Nat.le_refl _) _
 have hc:Calls Tryz.prog 14 #[.pointer (some ⟨b,0,none⟩),.int .i64 ((deg:Int)+1)] (w.alloc (.cells (Array.replicate n (nv .i64 0)) 3)) (Qs2 b i (deg+1) (w.alloc (.cells (Array.replicate n (nv .i64 0)) 3))):=by
  have:=Qqa b i (deg+1) _ (h.call hB0) (by omega) (by omega) (by omega)
  rwa[show ((deg+1:Nat):Int)=(deg:Int)+1 from rfl] at this
 have HC:=Xh2 hc hB0
 clear hc hB0 h
 go_enter Tryz.func94,Tryz.ntmps94
 go_wp2_with (go_at_call 14;refine (Xo0 HC).mono ?_;rintro e w1 ⟨⟨x,hx,rfl⟩,hd1,ht1⟩;(have HD:=Xh2 hd1 ht1);clear hd1 ht1)
 go_loopw [8] (fun s8 wr=>Qiq w b i n deg s8 wr) (fun iv _=>(intOf iv).toNat)
 case atStart=>exact ⟨x,i+1,List.replicate n 0,rfl,by simp,fun y hy=>by rw[List.eq_of_mem_replicate hy];decide,by simp;omega,(Q35.new w n).turn (Xe1 HD) (by omega),(Xo0 HD),by omega,(Q0m.of_below (Xe1 HC) _).trans0 (Xe1 HD)⟩
 case round=>
  obtain ⟨kk,q,E,rfl,hln,h0,hs,hrow,hdk,hq,ht⟩:=hrel
  by_cases hk:0<kk
  ·have hkI:(0:Int)<(kk:Int):=by omega
   have hsum0:0<=E.sum:=Q7n.sum0 h0
   have hcn:=Qqa b q n wr hdk (by omega) (by omega) (by omega)
   have HS:=Xh6 hln h0 hs hrow hq ht
   clear hln h0 hs hrow hdk hq ht
   go_wp2_with (go_at_call 14
                refine hcn.mono ?_
                rintro e w2 ⟨⟨r,hr,rfl⟩,hd2,ht2⟩
                have hrI:(r:Int)<(n:Int):=by omega
                obtain ⟨y,hy⟩:∃y,E[r]?=some y:=⟨_,List.getElem?_eq_getElem (by rw[(Xo0 HS)];exact hr)⟩
                have hrow2:=(Xo3 HS).turn ht2 (by omega)
                have c0:=hrow2.cell r y hy
                have z0:=hrow2.free r
                have hy0:0<=y:=(Xo1 HS) y (List.mem_of_getElem? hy)
                have hy8:y<=8:=by
                 have:=Q7n (Xo1 HS) hy
                 have:=(Xo2 HS)
                 omega
                have H2:=Xh4 hy hrow2 hd2 ht2
                clear hy hrow2 hd2 ht2 hcn)
   obtain ⟨k2,hk2⟩:∃k2,kk=k2+1:=⟨kk-1,by omega⟩
   have hs:=(Xo2 HS)
   have hq:=(Xo4 HS)
   have hw:wrap64 ((kk:Int)-1)=(k2:Int):=by unfold wrap64;omega
   have hw2:(kk:Int)-1=(k2:Int):=by omega
   first
    |rw[hw]
    |rw[hw2]
   exact ⟨Qkq (Xo0 HS) (Xo1 HS) (by omega) (Xo1 H2) (Xo2 H2) (by omega) ((Xe5 HS).trans0 (Xe3 H2)) (Xo0 H2) hbl,by simp only[intOf];omega⟩
  ·have hkI:¬(0:Int)<(kk:Int):=by omega
   have hre:Q0v n E:=⟨hln,h0,by omega⟩
   have hii:Q0i wr (some ⟨w.heap.size,0,none⟩) n n E:=⟨hln,Nat.le_refl _,by omega,fun x hx=>by
    obtain ⟨j,hj,rfl⟩:=List.getElem_of_mem hx
    have h2:=Q7n h0 (List.getElem?_eq_getElem hj)
    have h3:=h0 _ hx
    omega,.inr ⟨w.heap.size,0,rfl,hrow.lt,fun j x hx=>by rw[Nat.zero_add];exact hrow.cell j x hx⟩⟩
   have HS:=Xh6 hre hii hrow.lt hdk ht hq
   clear hln h0 hs hrow hdk hq ht hre hii
   go_wp2_with fail
   go_ret
   exact ⟨⟨w.heap.size,rfl,Nat.le_refl _,(Xo2 HS),E,(Xo1 HS),(Xo0 HS),q,(Xo3 HS),by have:=(Xe5 HS);omega⟩,(Xo4 HS)⟩
theorem Q6g.nou {w:World} {b i:Nat} (h:Q6g w b i):∀(o x:Nat),w.cell? ⟨b,o,none⟩≠some (nv .u64 x):=by
 obtain ⟨a,n,c,ls,hh,_⟩:=h
 intro o x e
 rw[cell_of_row _ _ _ _ _ _ hh] at e
 match o,e with
 |0,e=>simp[nv] at e
 |1,e=>simp[nv] at e
 |o+2,e=>simp at e
theorem Q55.turn {B b n c:Nat} {w w':World} {a:Option Addr} {all:List Q04} {xs:List Value} (hD:Q55 B w a n c all xs) (hbB:b<B) (hnu:∀(o x:Nat),w.cell? ⟨b,o,none⟩≠some (nv .u64 x)) (ht:Q0m (·=b) w w'):Q55 B w' a n c all xs:=by
 obtain ⟨h,hr,hN⟩:=hD
 have hab:∀x,a=some x->x.block≠b:=fun x hx e=>by have:=(h.lt hx).1;omega
 have hr':Q3h NoU w' B 44 4 a n c xs:=hr.keep fun x hx=>ht.block _ (h.lt hx).2 (hab x hx)
 refine ⟨⟨⟨xs,hr'⟩,fun j m hm=>?_,h.len⟩,hr',hN⟩
 obtain ⟨g,ha,aw,lw,cw,be,oe,le,ce,h0,h1,h2,h3,h4,h5,h6,h7⟩:=h.ent j m hm
 have hg:=h.lt ha
 have hgb:=hab _ ha
 have hjn:j<n:=by rw[<-h.len];exact (List.getElem?_eq_some_iff.1 hm).1
 obtain ⟨be',oe',le',ce',hx,hB⟩:=hN j hjn
 subst ha
 have h3':=hr.1.cell0 hx
 rw[h3] at h3'
 simp only[Option.some.injEq,Value.slice.injEq,Addr.mk.injEq] at h3'
 obtain ⟨⟨rfl,rfl,_⟩,rfl,rfl⟩:=h3'
 have hcell:∀o,w'.cell? ⟨g,o,none⟩=w.cell? ⟨g,o,none⟩:=fun o=>ht.cell (p:=⟨g,o,none⟩) hg.2 hgb
 have hoff:Qob (·=b) aw m.ws:=by
  rcases h4.rd with e|⟨bb,oo,rfl,hb,hc⟩
  ·exact .inl e
  cases hL:m.ws with
  |nil=>exact .inl rfl
  |cons y r=>
   refine .inr fun x hx e=>?_
   injection hx with hx
   subst hx
   have e:bb=b:=e
   subst e
   rw[hL] at hc
   exact hnu _ _ (hc 0 y rfl)
 have hi5:Q0i w' (some ⟨be,oe,none⟩) le ce m.es:=by
  refine ⟨h5.len,h5.cap,h5.most,h5.rng,?_⟩
  rcases h5.rd with h8|⟨b2,oo,e,hb,hcc⟩
  ·exact .inl h8
  ·injection e with e
   injection e with e1 e2
   subst e1;subst e2
   exact .inr ⟨be,oe,rfl,Nat.lt_of_lt_of_le hb ht.size,fun i x hx=>(ht.cell (p:=⟨be,oe+i,none⟩) hb (by show¬be=b;omega)).trans (hcc i x hx)⟩
 exact ⟨g,rfl,aw,lw,cw,be,oe,le,ce,(hcell _).trans h0,(hcell _).trans h1,(hcell _).trans h2,(hcell _).trans h3,h4.turn hoff ht (fun _ h=>h),hi5,h6,Nat.lt_of_lt_of_le h7 ht.size⟩
theorem Q55.push {B:Nat} {W:World} {a:Option Addr} {n c:Nat} {all:List Q04} {xs:List Value} (hD:Q55 B W a n c all xs) (hB:B<=W.heap.size) {m:Q04} {aw:Option Addr} {lw cw g le ce:Nat} (hw:WordsIn W aw lw cw m.ws) (hE:Q0i W (some ⟨g,0,none⟩) le ce m.es) (hg:B<=g) (hgl:g<W.heap.size) (hga:∀x,a=some x->x.block≠g) (hn:n<=1000):
 ∃a' c' W' xs',(Builtin.append_ #[25,25] 25 #[.slice a n c,.slice (some ⟨W.heap.size,0,none⟩) 1 1]).run Tryz.prog (W.alloc (.cells #[.bool m.neg,.int .i64 m.exp,.slice aw lw cw,.slice (some ⟨g,0,none⟩) le ce] 44))=.ok (.slice a' (n+1) c') W'/\Q55 B W' a' (n+1) c' (all++[m]) xs'/\Below B W W':=by
 obtain ⟨i0,hi0,hz0,hz1,hz2⟩:=Q0u Q3k
 have hal:Below W.heap.size W (W.alloc (.cells #[.bool m.neg,.int .i64 m.exp,.slice aw lw cw,.slice (some ⟨g,0,none⟩) le ce] 44)):=(Below.refl _ _).alloc (Nat.le_refl _) _
 have hD':=hD.step hal
 obtain ⟨g6,c6,w6,hrun6,hrow6,hgr6,hat6⟩:=Q11 (P:=Tryz.prog) NoU (W.alloc (.cells #[.bool m.neg,.int .i64 m.exp,.slice aw lw cw,.slice (some ⟨g,0,none⟩) le ce] 44)) 25 25 44 i0 _ 4 64 Q6x hi0 hz0 hz1 hz2 rfl Q67 B (Nat.le_trans hB hal.size) a n c xs hD'.row W.heap.size 1 1 [.bool m.neg,.int .i64 m.exp,.slice aw lw cw,.slice (some ⟨g,0,none⟩) le ce] rfl (World.news_of_block (cs:= #[.bool m.neg,.int .i64 m.exp,.slice aw lw cw,.slice (some ⟨g,0,none⟩) le ce]) (heap_alloc_new _ _)) (by simp[Value.oneCell']) (by intro u hu;simp at hu;rcases hu with rfl|rfl|rfl|rfl <;> exact fun _=>by simp[nv]) (by decide) (by omega) (by decide) (by decide)
 have hxl:xs.length=n*4:=hD.row.1.len
 refine ⟨_,c6,w6,_,hrun6,⟨hD'.st.push1 hD'.row hgr6 hat6 hrow6 rfl (hw.step hal) (hE.step hal) (Nat.lt_of_lt_of_le hgl hal.size) hga,hrow6,fun j hj=>?_⟩,?_⟩
 ·by_cases hjn:j<n
  ·obtain ⟨be,oe,l2,c2,hx,hb⟩:=hD.new j hjn
   exact ⟨be,oe,l2,c2,by rw[List.getElem?_append_left (by omega)];exact hx,hb⟩
  ·obtain rfl:j=n:=by omega
   exact ⟨g,0,le,ce,by rw[List.getElem?_append_right (by omega),hxl,Nat.add_sub_cancel_left];rfl,hg⟩
 ·have hbB:Below B W (W.alloc (.cells #[.bool m.neg,.int .i64 m.exp,.slice aw lw cw,.slice (some ⟨g,0,none⟩) le ce] 44)):=(Below.refl _ _).alloc hB _
  exact hbB.trans ⟨hgr6.os,hgr6.tape,hgr6.output,hgr6.size,fun z hz=>hgr6.block z (Nat.lt_of_lt_of_le hz (Nat.le_trans hB hal.size)) (fun e=>by
   cases a with
   |none=>simp at e
   |some q=>simp only[Option.map_some,Option.some.injEq] at e;have:=(hD.st.lt rfl).1;omega)⟩
theorem Q0m.past {fp:Nat->Prop} {w W W':World} (h:Q0m fp w W) (hb:Below w.heap.size W W'):Q0m fp w W':=
 ⟨hb.os.trans h.os,hb.tape.trans h.tape,hb.output.trans h.output,Nat.le_trans h.size hb.size,fun k hk hn=>(hb.block k hk).trans (h.block k hk hn)⟩
def Qtd (w:World) (b i n most:Nat) (s9 s10:Value) (wr:World):Prop:=∃(kk q N:Nat) (a:Option Addr) (c:Nat) (ms:List Q04) (xs:List Value),s9=.slice a N c/\s10=.int .i64 (kk:Int)/\N+kk<=most/\Q55 w.heap.size wr a N c ms xs/\(∀m∈ms,Q0v n m.es/\Q0g m.neg m.exp m.ws)/\Q6g wr b q/\q+kk*10<=i+1+most*10/\Q0m (·=b) w wr
theorem Qo8 (b i n most deg:Nat) (w:World) (h:Q6g w b i) (hi:i<=90000) (h1:1<=n) (hn:n<=4) (hm:most<=30) (hd:deg<=8):
 Calls Tryz.prog 49 #[.pointer (some ⟨b,0,none⟩),.int .i64 (n:Int),.int .i64 (most:Int),.int .i64 (deg:Int)] w fun e w'=>(∃a N c ms q,e=.returned (.slice a N c)/\N<=most/\Q0e w' a N c ms/\(∀m∈ms,Q0v n m.es/\Q0g m.neg m.exp m.ws)/\Q6g w' b q/\q<=i+1+most*10)/\Q0m (·=b) w w':=by
 have hbl:=h.lt
 have hc:Calls Tryz.prog 14 #[.pointer (some ⟨b,0,none⟩),.int .i64 ((most:Int)+1)] w (Qs2 b i (most+1) w):=by
  have:=Qqa b i (most+1) _ h (by omega) (by omega) (by omega)
  rwa[show ((most+1:Nat):Int)=(most:Int)+1 from rfl] at this
 have HC:=Lib.hid hc
 clear hc h
 go_enter Tryz.func49,Tryz.ntmps49
 go_wp2_with (go_at_call 14;refine HC.out.mono ?_;rintro e w1 ⟨⟨x,hx,rfl⟩,hd1,ht1⟩;(have HD:=Xh2 hd1 ht1);clear hd1 ht1)
 go_loopw [9,10] (fun s9 s10 wr=>Qtd w b i n most s9 s10 wr) (fun _ iv _=>(intOf iv).toNat)
 case atStart=>exact ⟨x,i+1,0,none,0,[],[],rfl,rfl,by omega,Q55.nil_ _ _,(fun m hm=>by cases hm),(Xo0 HD),by omega,(Xe1 HD)⟩
 case round=>
  obtain ⟨kk,q,N,a1,c1,ms,xs,rfl,rfl,hN,hM,hok,hdk,hq,ht⟩:=hrel
  by_cases hk:0<kk
  ·have hkI:(0:Int)<(kk:Int):=by omega
   have hsm:=Qo7 b q wr hdk (by omega)
   have HS:=Xh6 hN hM hok hq ht hdk
   clear hN hM hok hdk hq ht
   go_wp2_with (first
    |(go_at_call 94
      refine hpw.mono ?_
      rintro e w3 ⟨⟨g,E,q3,rfl,hg1,hg2,hE,hrE,hd3,hq3⟩,ht3⟩
      have hD3:=(Xo0 H2).turn hbl ((Xo1 H2).nou) ht3
      have hw3:WordsIn w3 a2 n2 c2 L:=(Xo4 H2).turn (Xe5 H2) ht3 (fun _ h=>h)
      have htw:=(Xo2 H2).trans0 ht3
      obtain ⟨a8,c8,w8,xs8,hrun8,hD8,hb8⟩:=hD3.push (htw.size) (m:=⟨neg2,e2,L,E⟩) hw3 hE (by have:=(Xo2 H2).size;omega) hg2 (fun x hx e=>by have:=((Xo0 H2).st.lt hx).2;omega) (by have:=(Xo0 HS);omega)
      have H3:=Xh6 hD8 hb8 hrE hd3 hq3 htw
      clear hD3 hw3 htw hD8 hb8 hrE hd3 hq3 hE ht3 hpw hg1 hg2)
    |(go_at_call 22
      refine hsm.mono ?_
      rintro e w2 ⟨⟨neg2,e2,a2,n2,c2,L,rfl,hnum,hW⟩,hd2,ht2⟩
      have hM2:=(Xo1 HS).turn hbl ((Xe5 HS).nou) ht2
      have hpw:=Qkr b (q+1) n deg w2 hd2 (by have:=(Xo3 HS);omega) h1 hn hd
      have hoff:Qob (·=b) a2 L:=by
       rcases hW.rd with e|⟨bb,oo,rfl,hb,hc⟩
       ·exact .inl e
       cases hL:L with
       |nil=>exact .inl rfl
       |cons y r=>
        refine .inr fun x hx e=>?_
        injection hx with hx
        subst hx
        have e:bb=b:=e
        subst e
        rw[hL] at hc
        exact hd2.nou _ _ (hc 0 y rfl)
      have H2:=Xh6 hM2 hd2 ((Xo4 HS).trans0 ht2) hnum hW hoff
      clear hM2 hd2 ht2 hnum hW hoff hsm)
    |(at_builtin;refine Q0d rfl (.tmp 19) (.tmp 27) 25 25 rfl _ _ rfl rfl _ _ hrun8 ?_))
   obtain ⟨k2,hk2⟩:∃k2,kk=k2+1:=⟨kk-1,by omega⟩
   have hN:=(Xo0 HS)
   have hq:=(Xo3 HS)
   have hq3:=(Xo4 H3)
   have hw:wrap64 ((kk:Int)-1)=(k2:Int):=by unfold wrap64;omega
   have hw2:(kk:Int)-1=(k2:Int):=by omega
   first
    |rw[hw]
    |rw[hw2]
   refine ⟨⟨k2,q3,N+1,a8,c8,ms++[⟨neg2,e2,L,E⟩],xs8,rfl,rfl,by omega,(Xo0 H3),fun m hm=>?_,?_,by omega,(Xe5 H3).past (Xo1 H3)⟩,by simp only[intOf];omega⟩
   ·rcases List.mem_append.1 hm with h0|h0
    ·exact (Xo2 HS) m h0
    ·rw[List.mem_singleton] at h0
     subst h0
     exact ⟨(Xo2 H3),(Xo3 H2)⟩
   ·have hb8:=(Xo1 H3)
    exact (Xo3 H3).turn (fp:=fun k=>w.heap.size<=k) ⟨hb8.os,hb8.tape,hb8.output,hb8.size,fun k _ hn=>hb8.block k (Nat.lt_of_not_le hn)⟩ fun k hk=>by omega
  ·have hkI:¬(0:Int)<(kk:Int):=by omega
   have hms:=hM.st.monos fun m hm=>(hok m hm).2
   have HS:=Xh6 hN hms hok hq ht hdk
   clear hN hM hok hdk hq ht hms
   go_wp2_with fail
   go_ret
   exact ⟨⟨a1,N,c1,rfl,by have:=(Xo0 HS);omega,ms,(Xo1 HS),(Xo2 HS),q,(Xe5 HS),by have:=(Xo3 HS);omega⟩,(Xo4 HS)⟩
def Qto (b i n most:Nat) (w:World) (e:Ending) (w':World):Prop:=(∃a N c ms q,e=.returned (.slice a N c)/\Q0e w' a N c ms/\Q10 n ms/\Qaw w.heap.size w' a N/\Q6g w' b q/\q<=i+1+most*10)/\Q0m (·=b) w w'
theorem Qqb {n:Nat} {ms:List Q04} (h1:1<=n) (hn:n<=4) (hP:Q6b n (ms.map Q04.term)) (ho:∀m∈ms,Q0g m.neg m.exp m.ws/\m.ws≠[]):Q10 n ms:=by
 obtain ⟨h2,h3,h4⟩:=hP
 refine ⟨h1,hn,by rwa[List.length_map] at h3,fun m hm=>⟨⟨(h4 _ (List.mem_map.2 ⟨m,hm,rfl⟩)).2.2,(ho m hm).1⟩,(ho m hm).2⟩,?_⟩
 unfold Q9w at h2
 rw[List.pairwise_map] at h2
 exact h2
theorem Q2j.deck {w1 w2:World} {x:Value} {er:Int} {n:Nat} {ts:List Q0f} (h:Q2j w1 (Q22 ts) (.returned (.tuple #[x,.int .i64 er])) w2) (ht:∀p∈ts,Q0v n p.2) (h1:1<=n) (hn:n<=4):∃a N c ms,x=.slice a N c/\Q0e w2 a N c ms/\Q10 n ms/\Qaw w1.heap.size w2 a N:=by
 obtain ⟨_,h⟩:=h
 cases hX:Q22 ts with
 |error e=>
  rw[hX] at h
  simp at h
  obtain ⟨rfl,_⟩:=h
  exact ⟨none,0,0,[],rfl,⟨rfl,Nat.le_refl _,by omega,.inl rfl⟩,⟨h1,hn,by decide,(fun m hm=>by cases hm),List.Pairwise.nil⟩,fun j hj=>absurd hj (Nat.not_lt_zero _)⟩
 |ok P=>
  rw[hX] at h
  obtain ⟨a,N,c,ms,he,hm,hP,ho,hN⟩:=h
  simp at he
  obtain ⟨rfl,_⟩:=he
  exact ⟨a,N,c,ms,rfl,hm,Qqb h1 hn (by rw[hP];exact Qjc ht hX) ho,hN⟩
theorem Qfd (b i n most deg:Nat) (w:World) (h:Q6g w b i) (hi:i<=90000) (h1:1<=n) (hn:n<=4) (hm:most<=30) (hd:deg<=8):
 Calls Tryz.prog 21 #[.pointer (some ⟨b,0,none⟩),.int .i64 (n:Int),.int .i64 (most:Int),.int .i64 (deg:Int)] w (Qto b i n most w):=by
 have hc:=Qo8 b i n most deg w h hi h1 hn hm hd
 go_enter Tryz.func21,Tryz.ntmps21
 go_wp2_with (first
  |(go_at_call 48
    refine hmk.mono ?_
    rintro r w2 hPO
    obtain ⟨x9,er9,rfl⟩:=hPO.pair
    obtain ⟨a9,N9,c9,ms9,rfl,hms9,hrv9,hnp9⟩:=hPO.deck (n:=n) (Xe3 H1) h1 hn
    have H2:=Xh5 hms9 hrv9 (hnp9.more (Xo1 H1).size) ((Xo0 H1).call hPO.1) ((Xo1 H1).trans0 (Q0m.of_below hPO.1 _))
    clear hPO hms9 hrv9 hnp9 hmk)
  |(go_at_call 49
    refine hc.mono ?_
    rintro e w1 ⟨⟨a1,N1,c1,ms1,q1,rfl,hN1,hms1,hok1,hd1,hq1⟩,ht1⟩
    have hmk:=Qfb a1 N1 c1 ms1 n w1 hms1 hok1 h1 hn (by omega)
    have H1:=Lib.hid (And.intro hd1 (And.intro ht1 (And.intro hq1 (show∀p∈ms1.map Q04.term,Q0v n p.2 from fun p hp=>by
     obtain ⟨m,hm,rfl⟩:=List.mem_map.1 hp
     exact (hok1 m hm).1))))
    clear hms1 hok1 hd1 hq1 ht1 hN1 hc))
 go_ret
 exact ⟨⟨a9,N9,c9,ms9,q1,rfl,(Xo0 H2),(Xo1 H2),(Xo2 H2),(Xo3 H2),(Xo2 H1)⟩,(Xe4 H2)⟩
theorem Qaw.kept {B n c:Nat} {w w':World} {a:Option Addr} {ms:List Q04} (h:Qaw B w a n) (hm:Q0e w a n c ms) (row:Option Nat) (hg:w.grownBy w' row) (hs:∀g,row=some g->∀o v,w.cell? ⟨g,o,none⟩=some v->Sl v):Qaw B w' a n:=fun j hj=>by
 obtain ⟨g,be,oe,le,ce,h1,h2,h3,h4⟩:=h j hj
 rcases hm.2.2.2 with e|⟨b,o,e,hb,hat⟩
 ·have:=hm.1
  rw[e] at this
  simp at this;omega
 ·obtain ⟨_,_,_,_,_,_,q0,_⟩:=hat 0 _ (List.getElem?_eq_getElem (by rw[hm.1];omega))
  have hbk:w'.heap[b]?=w.heap[b]?:=hg.block b hb (fun e'=>by obtain ⟨_,_,_,e2⟩:=hs b e'.symm _ _ q0;cases e2)
  rw[h1] at e
  injection e with e
  injection e with e
  subst e
  exact ⟨g,be,oe,le,ce,h1,h2,(World.cell?_of_block (a:=⟨g,_,none⟩) hbk).trans h3,h4⟩
theorem Qaw.turn {B b n:Nat} {w w':World} {a:Option Addr} (h:Qaw B w a n) (hbB:b<B) (ht:Q0m (·=b) w w'):Qaw B w' a n:=fun j hj=>by
 obtain ⟨g,be,oe,le,ce,h1,h2,h3,h4⟩:=h j hj
 exact ⟨g,be,oe,le,ce,h1,h2,(ht.cell (p:=⟨g,_,none⟩) (block_lt_of_cell h3) (by show¬g=b;omega)).trans h3,h4⟩
theorem Qaw.step {B n:Nat} {w w':World} {a:Option Addr} (h:Qaw B w a n) (hb:Below w.heap.size w w'):Qaw B w' a n:=fun j hj=>by
 obtain ⟨g,be,oe,le,ce,h1,h2,h3,h4⟩:=h j hj
 exact ⟨g,be,oe,le,ce,h1,h2,(hb.cell (p:=⟨g,_,none⟩) (block_lt_of_cell h3)).trans h3,h4⟩
theorem Q0e.turnD {B b n c:Nat} {w w':World} {a:Option Addr} {ms:List Q04} (h:Q0e w a n c ms) (hN:Qaw B w a n) (hbB:b<B) (hnu:∀(o x:Nat),w.cell? ⟨b,o,none⟩≠some (nv .u64 x)) (ht:Q0m (·=b) w w'):Q0e w' a n c ms:=by
 obtain ⟨h1,h2,h3,h4⟩:=h
 refine ⟨h1,h2,h3,?_⟩
 rcases h4 with h4|⟨b',o,h5,h6,h7⟩
 ·exact .inl h4
 ·refine .inr ⟨b',o,h5,Nat.lt_of_lt_of_le h6 ht.size,fun j m hm=>?_⟩
  obtain ⟨aw,lw,cw,ae,le,ce,q0,q1,q2,q3,hw,hi,hx⟩:=h7 j m hm
  obtain ⟨g,be,oe,le',ce',e1,hgB,e3,hbe⟩:=hN j (by rw[<-h1];exact (List.getElem?_eq_some_iff.1 hm).1)
  rw[h5] at e1
  simp only[Option.some.injEq,Addr.mk.injEq] at e1
  obtain ⟨rfl,rfl,_⟩:=e1
  have q3':=q3
  rw[Nat.zero_add,e3] at q3'
  simp only[Option.some.injEq,Value.slice.injEq] at q3'
  obtain ⟨rfl,rfl,rfl⟩:=q3'
  have hc:∀o,w'.cell? ⟨b',o,none⟩=w.cell? ⟨b',o,none⟩:=fun o=>ht.cell (p:=⟨b',o,none⟩) h6 (by show¬b'=b;omega)
  have hoff:Qob (·=b) aw m.ws:=by
   rcases hw.rd with e|⟨bb,oo,rfl,hb,hcc⟩
   ·exact .inl e
   cases hL:m.ws with
   |nil=>exact .inl rfl
   |cons y r=>
    refine .inr fun x hx e=>?_
    injection hx with hx
    subst hx
    have e:bb=b:=e
    subst e
    rw[hL] at hcc
    exact hnu _ _ (hcc 0 y rfl)
  refine ⟨aw,lw,cw,_,_,_,(hc _).trans q0,(hc _).trans q1,(hc _).trans q2,(hc _).trans q3,hw.turn hoff ht (fun _ h=>h),⟨hi.len,hi.cap,hi.most,hi.rng,?_⟩,hx⟩
  rcases hi.rd with h8|⟨b2,oo,e,hb,hcc⟩
  ·exact .inl h8
  ·injection e with e
   injection e with e4 e5
   subst e4;subst e5
   exact .inr ⟨be,oe,rfl,Nat.lt_of_lt_of_le hb ht.size,fun i x hx=>(ht.cell (p:=⟨be,oe+i,none⟩) hb (by show¬be=b;omega)).trans (hcc i x hx)⟩
def Qte (w:World) (b i n most:Nat) (s9 s10:Value) (wr:World):Prop:=∃(j q:Nat) (a:Option Addr) (c:Nat) (F:List (List Q04)) (vs:List Value),s9=.slice a j c/\s10=.int .i64 (j:Int)/\j<=n/\F.length=j/\Q3h Sl wr w.heap.size 25 1 a j c vs/\
 (∀(t:Nat) (ms:List Q04),F[t]?=some ms->∃p l d,vs[t]?=some (Value.slice p l d)/\Q0e wr p l d ms/\Qaw w.heap.size wr p l/\Q10 n ms)/\Q6g wr b q/\q<=i+j*(1+most*10)/\Q0m (·=b) w wr
def Qtf (b n:Nat) (w:World) (e:Ending) (w':World):Prop:=(∃a c F,e=.returned (.slice a n c)/\Q2r w' a n c F/\Q1y F/\F.length=n)/\Q0m (·=b) w w'
theorem Qcp (b i n most deg:Nat) (w:World) (h:Q6g w b i) (hi:i<=80000) (h1:1<=n) (hn:n<=4) (hm:most<=30) (hd:deg<=8):
 Calls Tryz.prog 10 #[.pointer (some ⟨b,0,none⟩),.int .i64 (n:Int),.int .i64 (most:Int),.int .i64 (deg:Int)] w (Qtf b n w):=by
 have hbl:=h.lt
 obtain ⟨i0,hi0,hz0,hz1,hz2⟩:=Q0u Qbn
 have HI:=Xh4 hi0 hz0 hz1 hz2
 have HD:=Lib.hid h
 clear h hi0 hz0 hz1 hz2
 go_enter Tryz.func10,Tryz.ntmps10
 go_wp2_with fail
 go_loopw [9,10] (fun s9 s10 wr=>Qte w b i n most s9 s10 wr) (fun _ iv _=>n-(intOf iv).toNat)
 case atStart=>exact ⟨0,i,none,0,[],[],rfl,rfl,Nat.zero_le _,rfl,Q3h.nil_ _ _ _ _ _,(fun t ms h=>by simp at h),HD.out,by omega,Q0m.of_below (Below.refl _ _) _⟩
 case round=>
  obtain ⟨j,q,a1,c1,F,vs,rfl,rfl,hj,hF,hrow,hat,hdk,hq,ht⟩:=hrel
  have hqb:q<=90000:=by
   have:j*(1+most*10)<=4*301:=Nat.mul_le_mul (by omega) (by omega)
   omega
  by_cases hlt:j<n
  ·have hlt':(j:Int)<(n:Int):=by omega
   have hpo:=Qfd b q n most deg wr hdk hqb h1 hn hm hd
   have HR:=Xh6 hF hrow hat hq ht hdk
   clear hF hrow hat hq ht hdk hqb
   go_wp2_with (first
    |(go_at_call 21
      refine hpo.mono ?_
      rintro e w3 ⟨⟨a3,l3,c3,ms3,q3,rfl,hm3,hrv3,hnp3,hd3,hq3⟩,ht3⟩
      obtain ⟨hi0,hz0,hz1,hz2⟩:=HI.out
      have hrow3:Q3h Sl w3 w.heap.size 25 1 a1 j c1 vs:=(Xo1 HR).keep fun x hx=>ht3.block _ (Q1m.lt.row2_blk (Xo1 HR).1 hx).2 (by have:=(Q1m.lt.row2_blk (Xo1 HR).1 hx).1;show¬x.block=b;omega)
      have hsz:w.heap.size<=w3.heap.size:=((Xo4 HR).trans0 ht3).size
      have hal:Below w3.heap.size w3 (w3.alloc (.cells #[.slice a3 l3 c3] 25)):=(Below.refl _ _).alloc (Nat.le_refl _) _
      obtain ⟨g6,c6,w6,hrun6,hrow6,hgr6,hat6⟩:=Q11 (P:=Tryz.prog) Sl (w3.alloc (.cells #[.slice a3 l3 c3] 25)) 22 22 25 i0 _ 1 24 Tryz.underlying22 hi0 hz0 hz1 hz2 rfl (by intro u hu;simp[Value.cells] at hu;subst hu;exact ⟨_,_,_,rfl⟩) w.heap.size (Nat.le_trans hsz hal.size) a1 j c1 vs (hrow3.step hal) w3.heap.size 1 1 [.slice a3 l3 c3] rfl (World.news_of_block (cs:= #[.slice a3 l3 c3]) (heap_alloc_new _ _)) (by simp[Value.oneCell']) (by intro u hu;simp at hu;subst hu;exact ⟨_,_,_,rfl⟩) (by decide) (by omega) (by decide) (by decide)
      have hb6:Below w.heap.size w3 w6:=((Below.refl w.heap.size w3).alloc hsz (.cells #[.slice a3 l3 c3] 25)).trans ⟨hgr6.os,hgr6.tape,hgr6.output,hgr6.size,fun z hz=>hgr6.block z (Nat.lt_of_lt_of_le hz (Nat.le_trans hsz hal.size)) (fun e=>by
       have:=hrow3.1.row_le z e.symm;omega)⟩
      have H3:=Xh11 hm3 hrv3 hnp3 hd3 hq3 ht3 hrow3 hal hrow6 hgr6 hb6
      clear hm3 hrv3 hnp3 hd3 hq3 ht3 hrow3 hal hrow6 hgr6 hb6 hsz hat6 hi0 hz0 hz1 hz2 hpo)
    |(at_builtin;refine Q0d rfl (.tmp 16) (.tmp 22) 22 22 rfl _ _ rfl rfl _ _ hrun6 ?_))
   obtain ⟨hm3,hrv3,hnp3,hd3,hq3,ht3,hrow3,hal,hrow6,hgr6,hb6⟩:=H3.out
   obtain ⟨hF,hrow,hat,hq,ht,hdk⟩:=HR.out
   have hsl:=(hrow3.step hal).sl
   have hstay:∀{a:Option Addr} {n c:Nat} {ms:List Q04},Q0e w3 a n c ms->Q0e w6 a n c ms:=fun h=>(h.step hal).kept _ hgr6 hsl
   have hstayN:∀{a:Option Addr} {n c:Nat} {ms:List Q04},Q0e w3 a n c ms->Qaw w.heap.size w3 a n->Qaw w.heap.size w6 a n:=fun h hN=>(hN.step hal).kept (h.step hal) _ hgr6 hsl
   have hvl:vs.length=j:=by have:=hrow.1.len;omega
   refine ⟨⟨j+1,q3,_,c6,F++[ms3],vs++[.slice a3 l3 c3],rfl,congrArg (Value.int .i64) (by omega),hlt,by rw[List.length_append,hF];rfl,hrow6,fun t ms hj=>?_,?_,?_,(ht.trans0 ht3).past hb6⟩,by simp only[intOf];omega⟩
   ·by_cases hji:t<j
    ·rw[List.getElem?_append_left (by rw[hF];exact hji)] at hj
     obtain ⟨p',n',d',g1',g2',g3',g4'⟩:=hat t ms hj
     exact ⟨p',n',d',by rw[List.getElem?_append_left (by omega)];exact g1',hstay (g2'.turnD g3' hbl hdk.nou ht3),hstayN (g2'.turnD g3' hbl hdk.nou ht3) (g3'.turn hbl ht3),g4'⟩
    ·rw[List.getElem?_append_right (by rw[hF];omega),hF] at hj
     have hj0:t-j=0:=by
      have:=(List.getElem?_eq_some_iff.1 hj).1
      simp at this;omega
     rw[hj0] at hj
     simp only[List.getElem?_cons_zero,Option.some.injEq] at hj
     subst hj
     exact ⟨a3,l3,c3,by rw[List.getElem?_append_right (by omega),hvl,hj0];rfl,hstay hm3,hstayN hm3 (hnp3.more ht.size),hrv3⟩
   ·exact hd3.turn (fp:=fun k=>w.heap.size<=k) ⟨hb6.os,hb6.tape,hb6.output,hb6.size,fun k _ hn=>hb6.block k (Nat.lt_of_not_le hn)⟩ fun k hk=>by omega
   ·rw[Nat.add_mul];omega
  ·have hlt':¬(j:Int)<(n:Int):=by omega
   have hjn:j=n:=by omega
   have HS:=Xh5 hF hrow hat ht hjn
   clear hF hrow hat hq ht hdk hjn hqb
   go_wp2_with fail
   go_ret
   obtain ⟨hF,hrow,hat,ht,hjn⟩:=HS.out
   subst hjn
   have hcap:=hrow.1.cap
   refine ⟨⟨a1,c1,F,rfl,⟨hF,hcap.1,by have:=hcap.2;simpa[maxLen] using this,?_⟩,⟨by omega,by omega,fun ms hm=>?_⟩,hF⟩,ht⟩
   ·rcases hrow.1.form with ⟨_,h0,_⟩|⟨g,cur,rfl,_,hl,_⟩
    ·omega
    ·refine .inr ⟨g,0,rfl,hl,fun t ms ht=>?_⟩
     obtain ⟨p,l,d,hv,hm,_⟩:=hat t ms ht
     exact ⟨p,l,d,by rw[Nat.zero_add];exact hrow.1.cell0 hv,hm⟩
   ·obtain ⟨t,ht,rfl⟩:=List.getElem_of_mem hm
    obtain ⟨_,_,_,_,_,_,h⟩:=hat t _ (List.getElem?_eq_getElem ht)
    rw[hF];exact h
end Go.Proofs.YtdilmfakkppgpaaGreatDoor
