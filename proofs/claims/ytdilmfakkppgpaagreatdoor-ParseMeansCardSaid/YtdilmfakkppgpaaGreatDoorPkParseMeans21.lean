/- Part 21 of the proof of LawParseMeans: MakeA, Cat. Condition: as each theorem says; none at the end. -/
import Derived.Carry
import Derived.Lib.AppendZerosOnto
import Derived.Test.YtdilmfakkppgpaaGreatDoorPkParseMeans20
set_option maxRecDepth 100000
set_option maxHeartbeats 16000000
namespace Go.Proofs.YtdilmfakkppgpaaGreatDoor
open Go.RowKit WordsM
theorem Q45:(Tryz.prog.info? 44).map (fun i=>(i.zero,i.size,i.bytes))=some (some (.agg #[.bool false,.int .i64 0,.slice none 0 0,.slice none 0 0]),4,64):=by kernel_rfl
theorem Q6r:∀u∈(Value.agg #[.bool false,.int .i64 0,.slice none 0 0,.slice none 0 0]).cells.toList,NoU u:=by
 intro u hu
 simp[Value.cells] at hu
 rcases hu with rfl|rfl|rfl <;> exact fun _=>by simp[nv]
def Q19 (w:World) (n:Nat) (X:Except Int (List Q0b)) (r:Ending) (w':World):Prop:=Below w.heap.size w w'/\match X with
 | .error er=>∃a l c,r=.returned (.tuple #[.slice a l c,.int .i64 er])
 | .ok P=>∃a l c ms,r=.returned (.tuple #[.slice a l c,.int .i64 0])/\Q0c w' a l c ms/\ms.map Q05.term=P/\Q0s n ms
theorem Q19.err {w w':World} {n:Nat} {X:Except Int (List Q0b)} {er:Int} {a:Option Addr} {l c:Nat} (hX:X=.error er) (hb:Below w.heap.size w w'):Q19 w n X (.returned (.tuple #[.slice a l c,.int .i64 er])) w':=⟨hb,by rw[hX];exact ⟨_,_,_,rfl⟩⟩
theorem Q2b {n:Bool} {e:Int} {L:List Nat} {w:World} {a:Option Addr} {l c:Nat} (h:Q0h n e L) (hw:WordsIn w a l c L):l<=64/\-65536<=e/\e<=65536:=by
 have:=Q3d h hw.low
 rw[hw.len] at this
 exact this
theorem Q0k.onBlock {w w':World} {ae:Option Addr} {le ce:Nat} {E:List Int} (h5:Q0k w ae le ce E) (hs:w.heap.size<=w'.heap.size) (mb:Nat) (hmb:∀o,w.cell? ⟨mb,o,none⟩=none) (hk:∀k,k<w.heap.size->k≠mb->w'.heap[k]?=w.heap[k]?):Q0k w' ae le ce E:=by
 refine ⟨h5.len,h5.cap,h5.most,h5.rng,?_⟩
 rcases h5.rd with h8|⟨b,oo,e,hb,hcc⟩
 ·exact .inl h8
 ·refine .inr ⟨b,oo,e,Nat.lt_of_lt_of_le hb hs,fun i x hx=>?_⟩
  have h9:=hcc i x hx
  have hne:b≠mb:=fun e=>by subst e;rw[hmb] at h9;cases h9
  exact (World.cell?_of_block (a:=⟨b,oo+i,none⟩) (hk b hb hne)).trans h9
theorem Q2s.onKept {w w':World} {b:Nat} {v0 v1 v2 v3:Value} (h:Q2s w b v0 v1 v2 v3) (hk:w'.heap[b]?=w.heap[b]?):Q2s w' b v0 v1 v2 v3:=by
 have hcc:∀o,w'.cell? ⟨b,o,none⟩=w.cell? ⟨b,o,none⟩:=fun o=>World.cell?_of_block (a:=⟨b,o,none⟩) hk
 have hff:∀o,w'.frozen? ⟨b,o,none⟩=w.frozen? ⟨b,o,none⟩:=fun o=>World.frozen?_of_block (a:=⟨b,o,none⟩) hk
 exact ⟨(hcc 0).trans h.c0,(hcc 1).trans h.c1,(hcc 2).trans h.c2,(hcc 3).trans h.c3,(hff 0).trans h.f0,(hff 1).trans h.f1,(hff 2).trans h.f2,(hff 3).trans h.f3⟩
theorem Qme {B:Nat} {w:World} {g n c:Nat} {all:List Q05} (h:Q1x B w (some ⟨g,0,none⟩) n c all) (i:Nat):w.frozen? ⟨g,i,none⟩=false:=by
 obtain ⟨xs,hr⟩:=h.row
 exact hr.1.frozen0 i
theorem Qmf {w0 w2 w3 w4:World} {mb n B N c p9 le ce:Nat} {g:P4->Option Nat} {a:Option Addr} {all:List Q05} {v0 v1 v2 v3:Value} {ae:Option Addr} {E:List Int} (hm:mb<p9) (h9:p9<w2.heap.size) (hb3:Below w2.heap.size w2 w3) (hp:Q4g w3 mb n g) (hg:w3.grownBy w4 (some mb)) (hall:Q1x B w3 a N c all) (hX:Q2s w3 p9 v0 v1 v2 v3) (hE:Q0k w3 ae le ce E):
 Q1x B w4 a N c all/\Q2s w4 p9 v0 v1 v2 v3/\Q0k w4 ae le ce E/\w3.heap.size<=w4.heap.size/\(w0.heap.size<=mb->Below w0.heap.size w0 w3->Below w0.heap.size w0 w4):=by
 have hk:∀k,k<w3.heap.size->k≠mb->w4.heap[k]?=w3.heap[k]?:=fun k h1 h2=>hg.block k h1 (fun e=>h2 (by injection e))
 have h3:p9<w3.heap.size:=Nat.lt_of_lt_of_le h9 hb3.size
 have hbl:=hk p9 h3 (by omega)
 have hcc:∀o,w4.cell? ⟨p9,o,none⟩=w3.cell? ⟨p9,o,none⟩:=fun o=>World.cell?_of_block (a:=⟨p9,o,none⟩) hbl
 have hff:∀o,w4.frozen? ⟨p9,o,none⟩=w3.frozen? ⟨p9,o,none⟩:=fun o=>World.frozen?_of_block (a:=⟨p9,o,none⟩) hbl
 refine ⟨hall.onBlock hg.size mb hp.cells (fun x hx=>hp.ne hall hx) hk,⟨(hcc 0).trans hX.c0,(hcc 1).trans hX.c1,(hcc 2).trans hX.c2,(hcc 3).trans hX.c3,(hff 0).trans hX.f0,(hff 1).trans hX.f1,(hff 2).trans hX.f2,(hff 3).trans hX.f3⟩,hE.onBlock hg.size mb hp.cells hk,hg.size,fun h0 hb=>?_⟩
 exact hb.trans ⟨hg.os,hg.tape,hg.output,hg.size,fun k h1=>hk k (Nat.lt_of_lt_of_le h1 hb.size) (by omega)⟩
theorem Qsf {w wr w2 w3 w4 w5:World} (h1:Below w.heap.size w wr) (h2:Below wr.heap.size wr w2) (h4:w3.heap.size<=w4.heap.size) (h3:w2.heap.size<=w3.heap.size) (h5:Below w4.heap.size w4 w5):w.heap.size<=w5.heap.size+1:=by
 have:=h1.size;have:=h2.size;have:=h5.size;omega
theorem Qps {w:World} {ms:List Q05} {k mb i j g N c:Nat} {all:List Q05} {m mj:Q05} {wc w8:World} {b:Bool} {e:Int} {al:Option Addr} {ll cl:Nat} {L:List Nat} (hlt:i<ms.length) (hN:N<=i+1) (hall:Q1x w.heap.size wc (some ⟨g,0,none⟩) N c all) (hmj:all[j]?=some mj)
 (hsum:∀b e L,Q1q b e L=Q1q mj.neg mj.exp mj.ws+Q1q m.neg m.exp m.ws->(all.set j ⟨b,e,L,mj.es⟩).map Q05.term=Q9d ((ms.take (i+1)).map Q05.term)) (haok:∀m∈all,Qug k (69632+64*(i:Int)) m) (hpow:Q4g wc mb N (Q32 all)) (hb:Below w.heap.size w wc)
 (hw8:WordsIn w8 al ll cl L) (hv8:Q1q b e L=Q1q mj.neg mj.exp mj.ws+Q1q m.neg m.exp m.ws) (hl8: -65536<=e) (hh8:e<=65536) (ht8:64*(ll:Int)+e<=69632+64*(i:Int)+64) (hb8:Below wc.heap.size wc w8):
 Qpr w ms k mb (.slice (some ⟨g,0,none⟩) N c) (.int .i64 ((i:Int)+1)) (((w8.setCell ⟨g,j*4,none⟩ (.bool b)).setCell ⟨g,j*4+1,none⟩ (.int .i64 e)).setCell ⟨g,j*4+2,none⟩ (.slice al ll cl)):=by
 have hg:=(hall.lt rfl).1
 have hall8:=hall.step hb8
 have hp8:=hpow.below hb8
 refine ⟨i+1,_,N,c,_,rfl,congrArg (Value.int .i64) (by omega),hlt,hN,hall8.put hmj hw8,hsum b e L hv8,fun m' hm'=>?_,?_,(((Below.next0 hb hb8).setCell (p:=⟨g,j*4,none⟩) hg _).setCell (p:=⟨g,j*4+1,none⟩) hg _).setCell (p:=⟨g,j*4+2,none⟩) hg _⟩
 ·rcases List.mem_or_eq_of_mem_set hm' with h1|rfl
  ·obtain ⟨a1,a2,a3,a4⟩:=haok m' h1
   exact ⟨a1,a2,a3,by omega⟩
  ·have hl:=hw8.len
   exact ⟨(haok mj (List.mem_of_getElem? hmj)).1,hl8,hh8,by show 64*(L.length:Int)+e<=_;omega⟩
 ·rw[Qpq (m':=⟨b,e,L,mj.es⟩) hmj rfl]
  have hne:mb≠g:=fun e=>hp8.ne hall8 rfl e.symm
  exact hp8.keep ((Below.heap_setCell _ _ _ _ hne).trans ((Below.heap_setCell _ _ _ _ hne).trans (Below.heap_setCell _ _ _ _ hne)))
theorem Qkk (l:List Q0b):(Q9d l).Perm (Q17 l):=by
 have h1:(Q9d l).Nodup:=((Qou l).1.imp fun {p q} h e=>h (by rw[e]))
 have h2:(Q17 l).Nodup:=((Q4z l).1.once.imp fun {p q} h e=>h (by rw[e]))
 exact (List.perm_ext_iff_of_nodup h1 h2).2 fun p=>Qds l p
theorem Qg4 {l:List Q0b} {all:List Q05} (h:all.map Q05.term=Q9d l) (hf:∀m∈all,Q63 m.term.1):¬(Q17 l).any (fun p=> !Q8q p.1)=true:=by
 intro ha
 obtain ⟨p,hp,hf2⟩:=List.any_eq_true.1 ha
 have h1:=(Qds l p).2 hp
 rw[<-h] at h1
 obtain ⟨m,hm,rfl⟩:=List.mem_map.1 h1
 rw[(Q1g _).2 (hf m hm)] at hf2
 cases hf2
theorem Qpt {l:List Q0b} {all outs:List Q05} (h:all.map Q05.term=Q9d l) (ho:outs.map Q05.term=(all.map Q05.term).filter (fun p=>decide (p.1≠0))) (hf:∀m∈all,Q63 m.term.1) (h24:24<outs.length):Q1t l=.error 6:=by
 have hl:outs.length=((Q17 l).filter fun p=>decide (p.1≠0)).length:=by
  rw[<-List.length_map (f:=Q05.term),ho,h]
  exact ((Qkk l).filter _).length_eq
 unfold Q1t
 rw[if_neg (Qg4 h hf),if_pos (by rw[<-hl];exact h24)]
def Qvk (wl:World) (all:List Q05) (k:Nat) (s12 s72:Value) (wx:World):Prop:=
 ∃(q:Nat) (a:Option Addr) (M c:Nat) (outs:List Q05),s12=.slice a M c/\s72=.int .i64 (q:Int)/\q<=all.length/\M<=q/\Q1x wl.heap.size wx a M c outs/\
  outs.map Q05.term=((all.take q).map Q05.term).filter (fun p=>decide (p.1≠0))/\(∀m∈outs,OkM k m)/\(∀m∈all.take q,Q63 m.term.1)/\Below wl.heap.size wl wx
theorem Q51 (a:Option Addr) (n c:Nat) (ms:List Q05) (k:Nat) (w:World) (h:Q0c w a n c ms) (hok:∀m∈ms,Qip k m) (hk1:1<=k) (hk:k<=4) (hn:n<=600) (hT:Q24 w):
 Calls Tryz.prog 83 #[.slice a n c,.int .i64 (k:Int)] w (Q19 w k (Q1t (ms.map Q05.term))):=by
 obtain ⟨i0,hi0,hz0,hz1,hz2⟩:=Q0t Q45
 have hln:=h.1
 subst hln
 obtain ⟨X,hX⟩:∃X,Q1t (ms.map Q05.term)=X:=⟨_,rfl⟩
 rw[hX]
 have hb1:Below w.heap.size w (w.alloc (.cells #[.int .i64 (k:Int)] 3)):=(Below.refl _ _).alloc (Nat.le_refl _) _
 have hkb:Quc (w.alloc (.cells #[.int .i64 (k:Int)] 3)) w.heap.size k:=⟨by rw[cell_of_row _ _ _ _ _ _ (heap_alloc_new _ _)];rfl,Q0f _ _⟩
 have hkc:=hkb.cell
 have hhas:=Qis a ms.length c ms w.heap.size k _ (h.step hb1) hok hk hkb
 have hk1':¬(k:Int)<1:=by omega
 have hk4':¬(4:Int)<(k:Int):=by omega
 have H:=Xh9 h hok hk1 hk hn hT hX hb1 hhas
 have HI:=Xh4 hi0 hz0 hz1 hz2
 have hcm:=Nat.le_trans h.2.1 h.2.2.1
 clear h hok hk1 hk hn hT hX hb1 hhas hkb hi0 hz0 hz1 hz2
 have hmm:= @run_makeMap Tryz.prog
 go_enter Tryz.func83,Tryz.ntmps83
 go_wp2_with (go_at_call_of 134 a;refine (Xe8 H).mono ?_;rintro r w1 ⟨rfl,hbw1⟩;have HB1:=Lib.hid hbw1;clear hbw1)
 have hbm:Below w.heap.size w (w1.alloc (.map #[] 0)):=by
  have h1:=Below.next0 (Xo7 H) HB1.out
  exact h1.alloc h1.size _
 have HB:=Lib.hid hbm
 clear hbm hmm
 go_loopw [7,31] (fun s7 s31 wr=>Qpr w ms k w1.heap.size s7 s31 wr) (fun _ iv _=>ms.length-(intOf iv).toNat)
 case atStart=>
  exact ⟨0,none,0,0,[],rfl,rfl,Nat.zero_le _,Nat.le_refl _,Q1x.nil_ _ _,rfl,(fun m hm=>by cases hm),Q4g.made _,HB.out⟩
 case round=>
  obtain ⟨i,a1,N,c1,all,rfl,rfl,hi,hNi,hall,hacc,haok,hpow,hbr⟩:=hrel
  by_cases hlt:i<ms.length
  ·have hlt':(i:Int)<(ms.length:Int):=by omega
   obtain ⟨m,hm⟩:∃m,ms[i]?=some m:=⟨_,List.getElem?_eq_getElem hlt⟩
   obtain ⟨b0,o0,rfl,hb0,hat⟩:∃b o,a=some ⟨b,o,none⟩/\b<wr.heap.size/\∀j m,ms[j]?=some m->Q4a wr b (o+j*4) m:=by
    rcases ((Xo0 H).step hbr).2.2.2 with h0|h0
    ·rw[h0] at hlt;simp at hlt
    ·exact h0
   obtain ⟨aw,lw,cw,ae,le,ce,k0,k1,k2,k3,hw,he,hx1,hx2⟩:=hat i m hm
   have hfm:Qip k m:=(Xo1 H) m (List.mem_of_getElem? hm)
   have hes:m.es.length=k:=hfm.1.1
   have hes0:m.es≠[]:=fun e=>by rw[e] at hes;have:=(Xo2 H);simp at hes;omega
   have hsm:∀x∈m.es,Q55 x:=fun x hx=>he.rng.1 x hx
   have hq:=Qwh hsm
   have hX:=Q2s.new wr (.bool m.neg) (.int .i64 m.exp) (.slice aw lw cw) (.slice ae le ce) 44
   have hbx:Below wr.heap.size wr (wr.alloc (.cells #[.bool m.neg,.int .i64 m.exp,.slice aw lw cw,.slice ae le ce] 44)):=(Below.refl _ _).alloc (Nat.le_refl _) _
   have hlx:=Q0f wr (.cells #[.bool m.neg,.int .i64 m.exp,.slice aw lw cw,.slice ae le ce] 44)
   have hof:=fun W (hW:Below wr.heap.size wr W)=>Qlz m.neg m.exp aw lw cw ae le ce m.es W (he.step hW) (by have:=(Xo3 H);omega) hes0
   obtain ⟨po,hpo⟩:∃po,Q32 all (p4 m.es)=po:=⟨_,rfl⟩
   have HPO:=Lib.hid hpo
   clear hpo
   have HR:=Xh15 hall hacc haok hpow hbr hm hw he hfm hq hof hes0 hX hbx hlx
   have x0:=hX.c0
   have x1:=hX.c1
   have x2:=hX.c2
   have x3:=hX.c3
   clear hall hacc haok hpow hbr hm hw he hfm hes hes0 hsm hq hX hbx hlx hof hat
   go_upto_if 43 with (go_at_call_of 136 aw;refine ((Xo10 HR) _ (Xo13 HR)).mono ?_;rintro r w2 ⟨rfl,hb2⟩;(have hp2:=((Xo3 HR).below (Xo13 HR)).below hb2);(have hlk:=hp2.look_ok (Xo9 HR));rw[HPO.out] at hlk;(have H2:=Xh2 hb2 hp2);clear hb2 hp2)
   have hstep2:=Below.next0 (Xo13 HR) (Xo0 H2)
   have hall2:=(Xo0 HR).step hstep2
   have hX2:=(Xo12 HR).step (Xo0 H2) (Xe14 HR)
   have HS2:=Xh3 hstep2 hall2 hX2
   have hNN:N<=600:=by have:=(Xo4 H);omega
   have hle:=(Xo7 HR).len
   have hle4:le<=4:=by have:=(Xo8 HR).1.1;have:=(Xo3 H);omega
   have HLE:=Lib.hid hle
   have y0:=hX2.c0
   have y1:=hX2.c1
   have y2:=hX2.c2
   have y3:=hX2.c3
   have htake:Q9d ((ms.take (i+1)).map Q05.term)=Q59 (Q9d ((ms.take i).map Q05.term)) m.term:=by
    rw[List.take_add_one,(Xo5 HR),List.map_append,Option.toList_some,List.map_singleton,Qf6]
   have HTK:=Lib.hid htake
   clear hstep2 hall2 hX2 hle x0 x1 x2 x3 htake
   go_cut [7,10] (fun s7 s10 wx=>Quh w ms k w1.heap.size i wr.heap.size (.bool m.neg) (.int .i64 m.exp) aw lw cw (.slice ae le ce) m s7 s10 wx)
   case first=>
    cases po with
    |some j=>
     go_wp2_with fail
     go_meet
     obtain ⟨mj,hmj,hpj⟩:=Qs8 HPO.out
     have hlen:∀m'∈all,m'.es.length=k:=fun m' hm'=>((Xo2 HR) m' hm').1.1
     have hes:=(Xo8 HR).1.1
     have hej:mj.es=m.es:=Qtb (hlen mj (List.mem_of_getElem? hmj)) hes (Xo3 H) hpj
     refine ⟨a1,N,c1,all,j,mj,rfl,rfl,by omega,(Xo1 HS2),hmj,hej,fun b e L hv=>?_,(Xo2 HR),(Xe1 H2),Below.next0 (Xo4 HR) (Xo0 HS2),(Xe2 HS2),Nat.lt_of_lt_of_le (Xe14 HR) (Xo0 H2).size,(Xo6 HR).step (Xo0 HS2)⟩
     have hpl:=Q8z (Xo3 H) hlen hes
     rw[HPO.out] at hpl
     rw[Qs9,HTK.out,Qg3 (j:=j) (q:=mj.term) (by rw[<-(Xo1 HR)];exact hpl.symm) (by rw[<-(Xo1 HR),List.getElem?_map,hmj];rfl),<-(Xo1 HR)]
     congr 1
     show (Q1q b e L,mj.es)=(Q1q mj.neg mj.exp mj.ws+Q1q m.neg m.exp m.ws,mj.es)
     rw[hv]
    |none=>
     obtain ⟨hi0,hz0,hz1,hz2⟩:=HI.out
     have hof2:=(Xo10 HR) w2 (Xo0 HS2)
     have HOF:=Lib.hid hof2
     clear hof2 hlk
     go_wp2_with (first
      |(go_at_call_of 136 aw;refine HOF.out.mono ?_;rintro r w3 ⟨rfl,hb3⟩;(have hp3:=(Xe1 H2).below hb3);(have hall3:=(Xo1 HS2).step hb3);(have hX3:=(Xe2 HS2).step hb3 (Nat.lt_of_lt_of_le (Xe14 HR) (Xo0 H2).size));obtain ⟨w4,hst,hp4,hg4⟩:=hp3.store (Xo9 HR) (by omega) N;(have hs4:=Qmf (w0:=w) (Xo3 HR).lt (Nat.lt_of_lt_of_le (Xe14 HR) (Xo0 H2).size) hb3 hp3 hg4 hall3 hX3 (((Xo7 HR).step (Xo0 HS2)).step hb3));(have hw4:=(((Xo6 HR).step (Xo0 HS2)).step hb3).onBlock hg4.size w1.heap.size hp3.cells (fun q h1 h2=>hg4.block q h1 (fun e=>h2 (by injection e))));(have HW4:=Lib.hid hw4);clear hw4;(have z3:=hs4.2.1.c3);(have HW3:=Lib.hid (Below.next0 (Below.next0 (Xo4 HR) (Xo0 HS2)) hb3));(have HS4:=Xh4 hp4 hs4 hg4 hb3.size);clear hp3 hall3 hX3 hb3 hp4 hg4 hs4)
      |(go_at_call_of 137 le;refine (Q9h ae le ce m.es w4 (Xo1 HS4).2.2.1 (Xo11 HR) (by omega)).mono ?_;rintro r w5 ⟨g5,c5,rfl,hrow5,hb5⟩;(have hall5:=(Xo1 HS4).1.step hb5);obtain ⟨xs5,hr5⟩:=hall5.row;obtain ⟨g6,c6,w6,hrun6,hrow6,hgr6,hat6⟩:=Q1f (P:=Tryz.prog) NoU (w5.alloc (.cells #[.bool false,.int .i64 0,.slice none 0 0,.slice (some ⟨g5,0,none⟩) le c5] 44)) 25 25 44 i0 _ 4 64 Tryz.underlying25 hi0 hz0 hz1 hz2 rfl Q6r w.heap.size (by rw[World.size_alloc];exact (Qsf (Xo4 HR) (Xo0 HS2) (Xo1 HS4).2.2.2.1 (Xe3 HS4) hb5)) a1 N c1 xs5 (hr5.step ((Below.refl _ _).alloc (Nat.le_refl _) _)) w5.heap.size 1 1 [.bool false,.int .i64 0,.slice none 0 0,.slice (some ⟨g5,0,none⟩) le c5] rfl (World.news_of_block (cs:= #[.bool false,.int .i64 0,.slice none 0 0,.slice (some ⟨g5,0,none⟩) le c5]) (heap_alloc_new w5 _)) (by simp[Value.oneCell']) (by intro u hu;simp at hu;rcases hu with rfl|rfl|rfl|rfl <;> exact fun _=>by simp[nv]) (by decide) (by omega) (by decide) (by decide);(have H5:=Xh7 hall5 hr5 hrow5 hb5 hrow6 hgr6 hat6);clear hall5 hr5 hrow5 hb5 hrow6 hgr6 hat6)
      |(at_builtin;refine Q0a rfl (.tmp 50) (.tmp 55) 25 25 rfl _ _ rfl rfl _ _ hrun6 ?_))
     go_meet
     have hmb:w.heap.size<=w1.heap.size:=(Below.next0 (Xo7 H) HB1.out).size
     have hw3:Below w.heap.size w w3:=⟨HW3.out.os,HW3.out.tape,HW3.out.output,HW3.out.size,HW3.out.block⟩
     have hw4:Below w.heap.size w w4:=(Xo1 HS4).2.2.2.2 hmb hw3
     have hw5:=Below.next0 hw4 (Xo3 H5)
     have hla:∀x,a1=some x->x.block<w4.heap.size:=fun x hx=>((Xo1 HS4).1.lt hx).2
     have hg5:=(Xo2 H5).fresh
     have hw6:Below w.heap.size w w6:=by
      have h1:=hw5.alloc hw5.size (.cells #[.bool false,.int .i64 0,.slice none 0 0,.slice (some ⟨g5,0,none⟩) le c5] 44)
      exact h1.trans ⟨(Xo5 H5).os,(Xo5 H5).tape,(Xo5 H5).output,(Xo5 H5).size,fun q hq=>(Xo5 H5).block q (Nat.lt_of_lt_of_le hq h1.size) (fun e=>by
       cases a1 with
       |none=>simp at e
       |some y=>simp only[Option.map_some,Option.some.injEq] at e;have:=((Xo0 H5).lt rfl).1;omega)⟩
     have hpush:=(Xo0 H5).push (Xo1 H5) (o:=.cells #[.bool false,.int .i64 0,.slice none 0 0,.slice (some ⟨g5,0,none⟩) le c5] 44) (Xo5 H5) (Xe6 H5) (m:=⟨false,0,[],m.es⟩) (aw:=none) (lw:=0) (cw:=0) (be:=g5) (oe:=0) (le:=le) (ce:=c5) (Xo4 H5) rfl (Q2g.nil_ w5 w5).toWordsIn ((Xo2 H5).ints (fun x hx=>(Xo7 HR).rng.1 x hx)) hg5.2 (fun x hx e=>by have:=hla x hx;omega)
     have hlen:∀m'∈all,m'.es.length=k:=fun m' hm'=>((Xo2 HR) m' hm').1.1
     have hes:=(Xo8 HR).1.1
     have hN:all.length=N:=(Xo0 HR).len
     refine ⟨some ⟨g6,0,none⟩,N+1,c6,all++[⟨false,0,[],m.es⟩],N,⟨false,0,[],m.es⟩,rfl,rfl,by omega,hpush,?_,rfl,fun b e L hv=>?_,fun m' hm'=>?_,?_,hw6,?_,?_,?_⟩
     ·rw[List.getElem?_append_right (by omega),hN,Nat.sub_self];rfl
     ·have hpl:=Q8z (Xo3 H) hlen hes
      rw[HPO.out] at hpl
      rw[HTK.out,Qki (by rw[<-(Xo1 HR)];exact hpl.symm),<-(Xo1 HR),List.set_append_right _ _ (by omega),hN,Nat.sub_self]
      show (all++[(⟨b,e,L,m.es⟩:Q05)]).map Q05.term=_
      rw[List.map_append]
      congr 1
      show [(Q1q b e L,m.es)]=[(Q1q m.neg m.exp m.ws,m.es)]
      rw[hv,Qrh,Dyadic.zero_add]
     ·rcases List.mem_append.1 hm' with h1|h1
      ·exact (Xo2 HR) m' h1
      ·rw[List.mem_singleton] at h1
       subst h1
       exact ⟨(Xo8 HR).1,by simp,by simp,by simp;omega⟩
     ·rw[Qmd (m:=⟨false,0,[],m.es⟩) hN HPO.out]
      have h5:=(Xo0 HS4).below (Xo3 H5)
      refine h5.keep (((Xo5 H5).block _ (by rw[World.size_alloc];exact Nat.lt_succ_of_lt h5.lt) (fun e=>?_)).trans (((Below.refl w5.heap.size w5).alloc (Nat.le_refl _) _).block _ h5.lt))
      cases a1 with
      |none=>simp at e
      |some y=>simp only[Option.map_some,Option.some.injEq] at e;exact h5.ne (Xo0 H5) rfl e.symm
     ·have h9:wr.heap.size<w4.heap.size:=by have h1:=(Xe14 HR);have h2:=(Xo0 H2).size;have h3:=(Xe3 HS4);have h4:=(Xo1 HS4).2.2.2.1;omega
      have hX5:=(Xo1 HS4).2.1.step (Xo3 H5) h9
      have h95:=Nat.lt_of_lt_of_le h9 (Xo3 H5).size
      refine hX5.onKept (((Xo5 H5).block _ (by rw[World.size_alloc];exact Nat.lt_succ_of_lt h95) (fun e=>?_)).trans (((Below.refl w5.heap.size w5).alloc (Nat.le_refl _) _).block _ h95))
      cases a1 with
      |none=>simp at e
      |some y=>simp only[Option.map_some,Option.some.injEq] at e;have:=((Xo0 HR).lt rfl).2;omega
     ·have h1:=(Xe14 HR);have h2:=(Xo0 H2).size;have h3:=(Xe3 HS4);have h4:=(Xo1 HS4).2.2.2.1;have h5:=(Xo3 H5).size;have h6:=(Xo5 H5).size;rw[World.size_alloc] at h6;omega
     ·have h5:=HW4.out.step (Xo3 H5)
      exact h5.turn ((Xo1 H5).off h5) ((Q0n.of_below ((Below.refl _ _).alloc (Nat.le_refl _) _) _).trans0 (Q0n.of_grown (Xo5 H5) fun r hr _=>by
       cases a1 with
       |none=>simp at hr
       |some y=>simp only[Option.map_some,Option.some.injEq] at hr;exact ⟨y,rfl,hr⟩)) (fun _ h=>h)
   case rest=>
    obtain ⟨a2,N2,c2,all2,j,mj,rfl,rfl,hN2,hall2,hmj,hej,hsum,haok2,hpow2,hb2,hX9,hlt9,hw9⟩:=hcut
    obtain ⟨g,rfl,awj,lwj,cwj,bej,oej,lej,cej,q0,q1,q2,q3,hwj,hij,hbj1,hbj2⟩:=hall2.ent j mj hmj
    have hjN:j<N2:=by rw[<-hall2.len];exact (List.getElem?_eq_some_iff.1 hmj).1
    have hjN':(j:Int)<(N2:Int):=by omega
    have hj0:(0:Int)<=(j:Int):=by omega
    obtain ⟨hr1,hlo1,hhi1,ht1⟩:=haok2 mj (List.mem_of_getElem? hmj)
    have hbd:=Q2b (Xo8 HR).2 (Xo6 HR)
    have hlj:=hwj.len
    have hi6:i<600:=by have:=(Xo4 H);omega
    have hadd:=Q9c mj.neg mj.exp awj lwj cwj mj.ws m.neg m.exp aw lw cw m.ws wc.drew hwj.drew hw9.drew (by omega) (by omega) (by omega) (by omega) (by omega) (by omega) (69632+64*(i:Int)) (-65536) 65536 (by omega) (by omega) (by omega) (by omega) (by omega) (by omega)
    have g0:=hX9.c0
    have g1:=hX9.c1
    have g2:=hX9.c2
    have HM:=Xh11 hN2 hall2 hmj hej hsum haok2 hpow2 hb2 hX9 hlt9 hadd
    clear hN2 hall2 hmj hej hsum haok2 hpow2 hb2 hX9 hlt9 hw9 hadd hwj hij hr1 hlo1 hhi1 ht1 hbd hlj y0 y1 y2 y3 hlk
    have q0d:wc.drew.cell? ⟨g,j*4,none⟩=some (.bool mj.neg):=q0
    have q1d:wc.drew.cell? ⟨g,j*4+1,none⟩=some (.int .i64 mj.exp):=q1
    have q2d:wc.drew.cell? ⟨g,j*4+2,none⟩=some (.slice awj lwj cwj):=q2
    have g0d:wc.drew.cell? ⟨wr.heap.size,0,none⟩=some (.bool m.neg):=g0
    have g1d:wc.drew.cell? ⟨wr.heap.size,1,none⟩=some (.int .i64 m.exp):=g1
    have g2d:wc.drew.cell? ⟨wr.heap.size,2,none⟩=some (.slice aw lw cw):=g2
    have hjt:((j:Int)).toNat=j:=by omega
    go_upto_region 13 with fail
    go_region_law (
     refine Q2x (by rfl) 55 #[.agg #[.bool mj.neg,.int .i64 mj.exp,.slice awj lwj cwj],.agg #[.bool m.neg,.int .i64 m.exp,.slice aw lw cw]] (by simp[go_sem]) ?_
     refine (Xe10 HM).mono ?_
     rintro r w8 ⟨b,e,al,ll,cl,L,rfl,hw8,hv8,hl8,hh8,ht8,hb8d⟩
     refine ⟨_,rfl,?_⟩
     have hb8:Below wc.heap.size wc w8:=⟨hb8d.os,hb8d.tape,hb8d.output,hb8d.size,hb8d.block⟩
     have hglt:g<wc.heap.size:=((Xo1 HM).lt rfl).2
     have j0:=(hb8.cell (p:=⟨g,j*4,none⟩) hglt).trans q0
     have j1:=(hb8.cell (p:=⟨g,j*4+1,none⟩) hglt).trans q1
     have j2:=(hb8.cell (p:=⟨g,j*4+2,none⟩) hglt).trans q2
     have hfr:=Qme (Xo1 HM)
     have i0':=(hb8.frozen (p:=⟨g,j*4,none⟩) hglt).trans (hfr _)
     have i1':=(hb8.frozen (p:=⟨g,j*4+1,none⟩) hglt).trans (hfr _)
     have i2':=(hb8.frozen (p:=⟨g,j*4+2,none⟩) hglt).trans (hfr _)
     have n1:(w8.setCell ⟨g,j*4,none⟩ (.bool b)).cell? ⟨g,j*4+1,none⟩=some (.int .i64 mj.exp):=(World.cell?_setCell_other _ _ _ _ (by simp)).trans j1
     have n2:((w8.setCell ⟨g,j*4,none⟩ (.bool b)).setCell ⟨g,j*4+1,none⟩ (.int .i64 e)).cell? ⟨g,j*4+2,none⟩=some (.slice awj lwj cwj):=(World.cell?_setCell_other _ _ _ _ (by simp)).trans ((World.cell?_setCell_other _ _ _ _ (by simp)).trans j2)
     have H8:=Xh6 hw8 hv8 hl8 hh8 ht8 hb8
     clear hw8 hv8 hl8 hh8 ht8 hb8 hb8d hglt hfr)
    all_goals go_wp2_with fail
    all_goals exact ⟨Qps hlt (Xo0 HM) (Xo1 HM) (Xo2 HM) (Xo4 HM) (Xo5 HM) (Xo6 HM) (Xo7 HM) (Xo0 H8) (Xo1 H8) (Xo2 H8) (Xo3 H8) (Xo4 H8) (Xe5 H8),by simp only[intOf];omega⟩
  ·have hlt':¬((i:Int)<(ms.length:Int)):=by omega
   have hie:i=ms.length:=by omega
   rw[hie,List.take_length] at hacc
   have hNN:N<=600:=by have:=(Xo4 H);omega
   have hc1:N<=9223372036854775807:=by omega
   have HL:=Xh5 hall hacc haok hbr hie
   clear hall hacc haok hpow hbr hie
   go_wp2_with fail
   rename World=>wl
   go_loopw [12,72] (fun s12 s72 wx=>Qvk wl all k s12 s72 wx) (fun _ iv _=>N-(intOf iv).toNat)
   case atStart=>
    exact ⟨0,none,0,0,[],rfl,rfl,Nat.zero_le _,Nat.zero_le _,Q1x.nil_ _ _,rfl,(fun m hm=>by cases hm),(fun m hm=>by cases hm),Below.refl _ _⟩
   case round=>
    obtain ⟨q,a3,M,c3,outs,rfl,rfl,hq,hM,houts,hosum,hook,hfit,hbo⟩:=hrel
    by_cases hql:q<N
    ·have hql':(q:Int)<(N:Int):=by omega
     obtain ⟨m,hm⟩:∃m,all[q]?=some m:=⟨_,List.getElem?_eq_getElem (by rw[(Xo0 HL).len];exact hql)⟩
     have hallx:=(Xo0 HL).step hbo
     obtain ⟨g,rfl,aw,lw,cw,be,oe,le,ce,q0,q1,q2,q3,hw,he,hb1,hb2⟩:=hallx.ent q m hm
     obtain ⟨hr1,hlo1,hhi1,ht1⟩:=(Xo2 HL) m (List.mem_of_getElem? hm)
     have hlw:=hw.len
     have hi6:i<=600:=by have:=(Xo4 H);omega
     have hX:=Q2s.new wr (.bool m.neg) (.int .i64 m.exp) (.slice aw lw cw) (.slice (some ⟨be,oe,none⟩) le ce) 44
     have hbx:Below wr.heap.size wr (wr.alloc (.cells #[.bool m.neg,.int .i64 m.exp,.slice aw lw cw,.slice (some ⟨be,oe,none⟩) le ce] 44)):=(Below.refl _ _).alloc (Nat.le_refl _) _
     have hlx:=Q0f wr (.cells #[.bool m.neg,.int .i64 m.exp,.slice aw lw cw,.slice (some ⟨be,oe,none⟩) le ce] 44)
     have hTl:=((Xo5 H).step ((Xo3 HL))).step hbo
     have hmk:=Q3r m.neg aw lw cw m.ws m.exp _ (hw.step hbx) (hTl.step hbx) (by omega) (by omega) (by omega)
     have HQ:=Xh13 houts hosum hook hfit hbo hm hw he hr1 hX hbx hlx hmk
     have x0:=hX.c0
     have x1:=hX.c1
     have x2:=hX.c2
     have x3:=hX.c3
     have hbe:=(Xo0 HL).ent q m hm
     clear houts hosum hook hfit hbo hm hw he hr1 hX hbx hlx hmk hallx hTl hlo1 hhi1 ht1
     go_upto_if 90 with (go_at_call_of 47 (Value.bool m.neg);refine (Xe12 HQ).mono ?_;rintro r w5 ⟨n',e',a',l',c',L,er,rfl,hmo,hnw,hb5⟩;have H5:=Xh3 (Q7o hmo) hnw hb5;clear hmo hnw hb5)
     have hm:=(Xo5 HQ)
     have hgl:g<wl.heap.size:=((Xo0 HL).lt rfl).2
     have hbel:be<wl.heap.size:=by
      obtain ⟨g2,e2,aw2,lw2,cw2,be2,oe2,le2,ce2,_,_,_,p3,_,_,_,p7⟩:=hbe
      injection e2 with e2
      injection e2 with e2
      subst e2
      have h1:=((Xo4 HQ).cell (p:=⟨g,q*4+3,none⟩) hgl).trans p3
      rw[q3] at h1
      injection h1 with h1
      injection h1 with h1
      injection h1 with h1
      injection h1 with h1
      omega
     have htk:((all.take (q+1)).map Q05.term).filter (fun p=>decide (p.1≠0))=((all.take q).map Q05.term).filter (fun p=>decide (p.1≠0))++(if m.term.1=0 then [] else [m.term]):=by
      rw[List.take_add_one,hm,List.map_append,List.filter_append]
      congr 1
      show [m.term].filter _=_
      rw[List.filter_cons]
      by_cases h0:m.term.1=0
      ·rw[if_pos h0,if_neg (by simpa using h0)];rfl
      ·rw[if_neg h0,if_pos (by simpa using h0)];rfl
     have hmem:∀m'∈all.take (q+1),m'∈all.take q∨m'=m:=fun m' h'=>by
      rw[List.take_add_one,hm] at h'
      simpa using h'
     have hbw5:=Below.next0 (Xo10 HQ) (Xe2 H5)
     have hb5l:=Below.next0 (Xo4 HQ) hbw5
     have HB5:=Xh5 hbel htk hmem hbw5 hb5l
     have hX5:=(Xo9 HQ).step (Xe2 H5) (Xo11 HQ)
     have hN5:=Q04.new w5 (.bool n') (.int .i64 e') (.slice a' l' c') 41
     have hal5:Below w5.heap.size w5 (w5.alloc (.cells #[.bool n',.int .i64 e',.slice a' l' c'] 41)):=(Below.refl _ _).alloc (Nat.le_refl _) _
     have hX6:=hX5.step hal5 (Nat.lt_of_lt_of_le (Xo11 HQ) (Xe2 H5).size)
     have u3:=hX6.c3
     have t0:=hN5.c0
     have t1:=hN5.c1
     have t2:=hN5.c2
     have HA5:=Lib.hid hal5
     clear hX5 hN5 hX6 hal5 hbe hbel htk hmem hbw5 hb5l hm x0 x1 x2 x3
     rcases (Xo0 H5) with ⟨hfits,rfl,hnum,hval⟩|⟨hnf,rfl,_⟩
     ·have hll:=(Xo1 H5).len
      have hfit2:∀m'∈all.take (q+1),Q63 m'.term.1:=fun m' h'=>((Xo2 HB5) m' h').elim (fun h1=>(Xo3 HQ) m' h1) (fun h1=>by subst h1;exact hfits)
      have HV:=Xh4 hfits hnum hval hfit2
      clear hfits hnum hval hfit2
      by_cases hL0:L=[]
      ·have hl0:¬((0:Int)<(l':Int)):=by rw[<-hll,hL0];simp
       have h0:m.term.1=0:=by
        show Q1q m.neg m.exp m.ws=0
        have e0:Q1q n' e' L=Q1q m.neg m.exp m.ws:=(Xo2 HV)
        rw[<-e0,hL0]
        exact (Q5e (by rw[<-hL0];exact (Xo1 HV)) (fun x hx=>by cases hx)).2 rfl
       have H0:=Lib.hid h0
       clear h0 hL0 hll
       go_wp2_with fail
       refine ⟨⟨q+1,a3,M,c3,outs,rfl,congrArg (Value.int .i64) (by omega),by have:=(Xo0 HL).len;omega,by omega,(Xo0 HQ).step (Below.next0 (Xo3 HB5) HA5.out),?_,(Xo2 HQ),(Xe3 HV),Below.next0 (Xe4 HB5) HA5.out⟩,by simp only[intOf];omega⟩
       rw[(Xo1 HB5),if_pos H0.out,List.append_nil];exact (Xo1 HQ)
      ·have hl0:(0:Int)<(l':Int):=by
        rw[<-hll]
        have:=List.length_pos_iff.2 hL0
        omega
       obtain ⟨hi0,hz0,hz1,hz2⟩:=HI.out
       have houts6:=(Xo0 HQ).step (Below.next0 (Xo3 HB5) HA5.out)
       obtain ⟨xs6,hr6⟩:=houts6.row
       have hMM:M<=600:=by omega
       have hB6:wl.heap.size<=((w5.alloc (.cells #[.bool n',.int .i64 e',.slice a' l' c'] 41)).alloc (.cells #[.bool n',.int .i64 e',.slice a' l' c',.slice (some ⟨be,oe,none⟩) le ce] 44)).heap.size:=by
        have:=(Xe4 HB5).size;rw[World.size_alloc,World.size_alloc];omega
       obtain ⟨g6,c6,w6,hrun6,hrow6,hgr6,hat6⟩:=Q1f (P:=Tryz.prog) NoU ((w5.alloc (.cells #[.bool n',.int .i64 e',.slice a' l' c'] 41)).alloc (.cells #[.bool n',.int .i64 e',.slice a' l' c',.slice (some ⟨be,oe,none⟩) le ce] 44)) 25 25 44 i0 _ 4 64 Tryz.underlying25 hi0 hz0 hz1 hz2 rfl Q6r wl.heap.size hB6 a3 M c3 xs6 (hr6.step ((Below.refl _ _).alloc (Nat.le_refl _) _)) (w5.alloc (.cells #[.bool n',.int .i64 e',.slice a' l' c'] 41)).heap.size 1 1 [.bool n',.int .i64 e',.slice a' l' c',.slice (some ⟨be,oe,none⟩) le ce] rfl (World.news_of_block (cs:= #[.bool n',.int .i64 e',.slice a' l' c',.slice (some ⟨be,oe,none⟩) le ce]) (heap_alloc_new _ _)) (by simp[Value.oneCell']) (by intro u hu;simp at hu;rcases hu with rfl|rfl|rfl|rfl <;> exact fun _=>by simp[nv]) (by decide) (by omega) (by decide) (by decide)
       rw[World.size_alloc w5] at hrun6
       have H6:=Xh6 houts6 hr6 hrow6 hgr6 hat6 hL0
       clear houts6 hr6 hrow6 hgr6 hat6 hB6 hL0 hll hi0 hz0 hz1 hz2
       go_wp2_with (at_builtin;refine Q0a rfl (.tmp 96) (.tmp 101) 25 25 rfl _ _ rfl rfl _ _ hrun6 ?_)
       have hw6:=(Xo1 H5).toWordsIn.step HA5.out
       have he6:=(Xo7 HQ).step (Below.next0 (Xo3 HB5) HA5.out)
       have hpush:=(Xo0 H6).push (Xo1 H6) (o:=.cells #[.bool n',.int .i64 e',.slice a' l' c',.slice (some ⟨be,oe,none⟩) le ce] 44) (Xo3 H6) (Xo4 H6) (m:=⟨n',e',L,m.es⟩) (Xo2 H6) rfl hw6 he6 (by rw[World.size_alloc];have:=(Xo0 HB5);have:=(Xe4 HB5).size;omega) (fun x hx e=>by have:=((Xo0 H6).lt hx).1;have:=(Xo0 HB5);omega)
       have hbw6:Below wl.heap.size wl w6:=by
        have h1:=(Below.next0 (Xe4 HB5) HA5.out)
        have h2:=h1.alloc h1.size (.cells #[.bool n',.int .i64 e',.slice a' l' c',.slice (some ⟨be,oe,none⟩) le ce] 44)
        exact h2.trans ⟨(Xo3 H6).os,(Xo3 H6).tape,(Xo3 H6).output,(Xo3 H6).size,fun z hz=>(Xo3 H6).block z (Nat.lt_of_lt_of_le hz h2.size) (fun e=>by
         cases a3 with
         |none=>simp at e
         |some y=>simp only[Option.map_some,Option.some.injEq] at e;have:=((Xo0 H6).lt rfl).1;omega)⟩
       have hv:Q1q n' e' L=m.term.1:=(Xo2 HV)
       have hne:m.term.1≠0:=fun e0=>(Xe5 H6) ((Q5e (Xo1 HV) hw6.low).1 (hv.trans e0))
       refine ⟨⟨q+1,_,M+1,c6,_,rfl,congrArg (Value.int .i64) (by omega),by have:=(Xo0 HL).len;omega,by omega,hpush,?_,fun m' hm'=>?_,(Xe3 HV),hbw6⟩,by simp only[intOf];omega⟩
       ·rw[(Xo1 HB5),if_neg hne,List.map_append,(Xo1 HQ)]
        congr 1
        show [(Q1q n' e' L,m.es)]=[m.term]
        rw[hv];rfl
       ·rcases List.mem_append.1 hm' with h1|h1
        ·exact (Xo2 HQ) m' h1
        ·rw[List.mem_singleton] at h1
         subst h1
         exact ⟨⟨(Xo8 HQ),(Xo1 HV)⟩,(Xe5 H6)⟩
     ·have hX2:X=.error 2:=by
       rw[<-(Xo6 H)]
       have hin:m.term∈Q9d (ms.map Q05.term):=by rw[<-(Xo1 HL)];exact List.mem_map.2 ⟨m,List.mem_of_getElem? (Xo5 HQ),rfl⟩
       unfold Q1t
       rw[if_pos]
       rw[List.any_eq_true]
       refine ⟨m.term,(Qds _ _).1 hin,?_⟩
       have:Q8q m.term.1=false:=(Qdt _).2 hnf
       rw[this];rfl
      have HX:=Lib.hid hX2
      clear hX2 hnf
      go_wp2_with fail
      exact ⟨rfl,.tuple #[.slice none 0 0,.int .i64 2],by simp[results,go_sem],Q19.err HX.out (Below.next0 (Below.next0 (Xo3 HL) (Xe4 HB5)) HA5.out)⟩
    ·have hql':¬((q:Int)<(N:Int)):=by omega
     have hqa:all.take q=all:=List.take_of_length_le (by have:=(Xo0 HL).len;omega)
     rw[hqa] at hosum hfit
     have HO:=Xh5 houts hosum hook hfit hbo
     have hM6:M<=600:=by have:=(Xo0 HL).len;omega
     clear houts hosum hook hfit hbo hqa
     by_cases h24:24<M
     ·have h24':(24:Int)<(M:Int):=by omega
      have hX6:X=.error 6:=by
       rw[<-(Xo6 H)]
       exact Qpt (Xo1 HL) (Xo1 HO) (Xo3 HO) (by rw[(Xo0 HO).len];exact h24)
      have HX:=Lib.hid hX6
      clear hX6
      go_wp2_with fail
      exact ⟨rfl,.tuple #[.slice none 0 0,.int .i64 6],by simp[results,go_sem],Q19.err HX.out (Below.next0 (Xo3 HL) (Xe4 HO))⟩
     ·have h24':¬(24:Int)<(M:Int):=by omega
      have hsort:=Qse (Xo0 HO) (by omega) ((Xo0 HO).exps (Xo2 HO))
      have HS:=Lib.hid hsort
      clear hsort
      go_wp2_with (go_at_call_of 138 (Value.slice a3 M c3);refine HS.out.mono ?_;rintro r w9 ⟨rfl,outs',hms9,hperm9,hs9,hb9⟩;have H9:=Xh4 hms9 hperm9 hs9 hb9;clear hms9 hperm9 hs9 hb9)
      have hpw:outs'.Pairwise (fun p q=>¬Q2v p.es q.es<0):=(Xo2 H9).imp fun {p q} h=>by omega
      obtain ⟨hres,hrv⟩:=Qui (Xo2 H) (Xo3 H) (Qkk _) (Qg4 (Xo1 HL) (by have:=(Xo3 HO);exact this)) (Xo1 HL) (Xo1 HO) (by rw[(Xo0 HO).len];omega) (Xo1 H9) hpw (Xo2 HO)
      refine ⟨rfl,.tuple #[.slice a3 M c3,.int .i64 0],by simp[results,go_sem],?_,?_⟩
      ·exact Below.next0 (Xo3 HL) ((Xe4 HO).trans (Xe3 H9))
      ·rw[<-(Xo6 H),hres]
       exact ⟨a3,M,c3,outs',rfl,(Xo0 H9),rfl,hrv⟩
def Qa7 (w:World):List Q05->List Value->Prop
 |[],xs=>xs=[]
 |m::r,xs=>∃aw lw cw ae le ce ys,xs=.bool m.neg:: .int .i64 m.exp:: .slice aw lw cw:: .slice ae le ce::ys/\(WordsIn w aw lw cw m.ws/\Q0k w ae le ce m.es/\-9223372036854775808<=m.exp/\m.exp<=9223372036854775807)/\Qa7 w r ys
theorem Qa7.len {w:World}:∀{ms:List Q05} {xs:List Value},Qa7 w ms xs->xs.length=ms.length*4
 |[],_,h=>by cases h;rfl
 |m::r,_,⟨_,_,_,_,_,_,ys,rfl,_,h⟩=>by
  have:=Qa7.len h
  simp only[List.length_cons];omega
theorem Qa7.one {w:World}:∀{ms:List Q05} {xs:List Value},Qa7 w ms xs->∀u∈xs,u.oneCell'=true
 |[],_,h,u,hu=>by cases h;cases hu
 |m::r,_,⟨_,_,_,_,_,_,ys,rfl,_,h⟩,u,hu=>by
  simp only[List.mem_cons] at hu
  rcases hu with rfl|rfl|rfl|rfl|hu
  ·rfl
  ·rfl
  ·rfl
  ·rfl
  ·exact Qa7.one h u hu
theorem Qa7.append {w:World} {ms':List Q05} {ys:List Value} (h':Qa7 w ms' ys):∀{ms:List Q05} {xs:List Value},Qa7 w ms xs->Qa7 w (ms++ms') (xs++ys)
 |[],_,h=>by cases h;exact h'
 |m::r,_,⟨aw,lw,cw,ae,le,ce,zs,rfl,hg,h⟩=>⟨aw,lw,cw,ae,le,ce,zs++ys,rfl,hg,Qa7.append h' h⟩
theorem Qa7.of {w:World} {b:Nat}:∀{ms:List Q05} {o:Nat},(∀j m,ms[j]?=some m->Q4a w b (o+j*4) m)->∃xs,Qa7 w ms xs/\∀j u,xs[j]?=some u->w.cell? ⟨b,o+j,none⟩=some u
 |[],o,_=>⟨[],rfl,fun j u h=>by simp at h⟩
 |m::r,o,h=>by
  obtain ⟨ys,hy1,hy2⟩:=Qa7.of (ms:=r) (o:=o+4) (fun j m' hm=>by have:=h (j+1) m' hm;rwa[show o+(j+1)*4=o+4+j*4 by omega] at this)
  obtain ⟨aw,lw,cw,ae,le,ce,h0,h1,h2,h3,hg⟩:=h 0 m rfl
  rw[Nat.zero_mul,Nat.add_zero] at h0 h1 h2 h3
  refine ⟨_,⟨aw,lw,cw,ae,le,ce,ys,rfl,hg,hy1⟩,fun j u hj=>?_⟩
  match j,hj with
  |0,hj=>simp at hj;rw[<-hj];exact h0
  |1,hj=>simp at hj;rw[<-hj];exact h1
  |2,hj=>simp at hj;rw[<-hj];exact h2
  |3,hj=>simp at hj;rw[<-hj];exact h3
  |j+4,hj=>
   have:=hy2 j u (by simpa using hj)
   rwa[show o+4+j=o+(j+4) by omega] at this
theorem Qa7.lie {w w':World} {g:Nat} (hb:Below w.heap.size w w'):∀{ms:List Q05} {xs:List Value} {o:Nat},Qa7 w ms xs->(∀j u,xs[j]?=some u->w'.cell? ⟨g,o+j,none⟩=some u)->∀j m,ms[j]?=some m->Q4a w' g (o+j*4) m
 |[],_,_,_,_,j,m,hm=>by simp at hm
 |m0::r,_,o,⟨aw,lw,cw,ae,le,ce,ys,rfl,⟨g1,g2,g3⟩,h⟩,hc,j,m,hm=>by
  match j,hm with
  |0,hm=>
   simp at hm
   subst hm
   refine ⟨aw,lw,cw,ae,le,ce,?_,?_,?_,?_,g1.step hb,g2.step hb,g3⟩
   ·exact hc 0 _ rfl
   ·have:=hc 1 _ rfl;simpa using this
   ·have:=hc 2 _ rfl;simpa using this
   ·have:=hc 3 _ rfl;simpa using this
  |j+1,hm=>
   have:=Qa7.lie hb (o:=o+4) h (fun i u hi=>by
    have:=hc (i+4) u (by simpa using hi)
    rwa[show o+(i+4)=o+4+i by omega] at this) j m (by simpa using hm)
   rwa[show o+4+j*4=o+(j+1)*4 by omega] at this
theorem Q77 {P:Program} (w:World) (t ty e:TypeId) (i:TypeInfo) (ht:P.underlying t=some (.slice e)) (hi:P.info? e=some i) (a b:Option Addr) (n c d:Nat) (hn:n<=c):
 (Builtin.append_ #[t,t] ty #[.slice a n c,.slice b 0 d]).run P w=.ok (.slice a n c) w:=by
 have hf:(Builtin.firstCells i.size 0 (.slice b 0 d)).run P w=.ok #[] w:=by
  cases b with
  |none=>exact run_firstCells_none w i.size 0 0 d
  |some x=>exact run_firstCells_some (P:=P) w i.size 0 x 0 d [] (by simp) (fun j u h=>by simp at h)
 cases a with
 |none=>simp[Builtin.append_,run_underlying ht,sizeOf,typeInfo,hi,Builtin.lenOf,hf,hn]
 |some x=>simp[Builtin.append_,run_underlying ht,sizeOf,typeInfo,hi,Builtin.lenOf,hf,hn,storeCells]
theorem Q9j (ty:TypeId) (w0 w:World) (hb:Below w0.heap.size w0 w) (a:Option Addr) (n c:Nat) (xs:List Value) (hr:Row w w0.heap.size 44 4 a n c xs) (b:Option Addr) (m d:Nat) (ms:List Q05) (h:Q0c w0 b m d ms) (hnm:n+m<=1000):
 ∃a' c' w' ys,(Builtin.append_ #[25,25] ty #[.slice a n c,.slice b m d]).run Tryz.prog w=.ok (.slice a' (n+m) c') w'/\Row w' w0.heap.size 44 4 a' (n+m) c' (xs++ys)/\Qa7 w0 ms ys/\Below w0.heap.size w0 w':=by
 obtain ⟨i0,hi0,hz0,hz1,hz2⟩:=Q0t Q45
 obtain ⟨h1,h2,h3,rfl|⟨bb,o,rfl,hlt,h4⟩⟩:=h
 ·subst h1
  refine ⟨a,c,w,[],Q77 w _ ty _ i0 Tryz.underlying25 hi0 a b n c d hr.cap.1,by simpa using hr,rfl,hb⟩
 ·obtain ⟨ys,hy1,hy2⟩:=Qa7.of h4
  have hcy:∀j u,ys[j]?=some u->w.cell? ((⟨bb,o,none⟩:Addr).add j)=some u:=fun j u hj=>by
   rw[Addr.add_lit]
   exact (hb.cell (p:=⟨bb,o+j,none⟩) hlt).trans (hy2 j u hj)
  obtain ⟨a',c',w',hrun,hrow,hgr,hbw,_⟩:=Q3v w0 w ty 25 44 i0 _ 4 64 Tryz.underlying25 hi0 hz0 hz1 hz2 rfl (by decide) w0.heap.size hb hb.size a n c xs hr ⟨bb,o,none⟩ m d ys (by rw[hy1.len,h1]) hcy hy1.one (n+m) rfl (by omega) (by omega)
  exact ⟨a',c',w',ys,hrun,hrow,hy1,hbw⟩
theorem Qsg (N:Nat) (w:World) (hN:N<=1000):
 Calls Tryz.prog 202 #[.slice none 0 0,.int .i64 (N:Int)] w fun r w'=>∃a c,r=.returned (.slice a 0 c)/\Row w' w.heap.size 44 4 a 0 c []/\Below w.heap.size w w':=by
 obtain ⟨i0,hi0,hz0,hz1,hz2⟩:=Q0t Q45
 have h0:¬((N:Int)<0):=by omega
 by_cases h1:N=0
 ·subst h1
  go_enter Tryz.func202,Tryz.ntmps202
  go_wp2_with fail
  go_ret
  exact ⟨none,0,rfl,Row.nil_ _ _ _ _,Below.refl _ _⟩
 ·have h2:(0:Int)<(N:Int):=by omega
  have hC1:=grownCap_ge w (0+N) 0 44
  have hC2:=grownCap_le_maxLen w (0+N) 0 44 (by unfold maxLen;omega)
  have hrun:=fun ty=>Lib.run_append_grow_zeros (P:=Tryz.prog) w 25 3 ty 44 i0 _ .i64 .i64 Tryz.underlying25 Tryz.underlying3 hi0 hz0 none 0 0 [] (run_firstCells_none _ _ _ _ _) N (by omega) (by rw[hz1];decide) (by omega) (by omega) (by rw[hz2];omega) (by rw[hz2];exact growslice_fits (by omega) (by omega))
  obtain ⟨C,hC⟩:∃C,grownCap w (0+N) 0 44=C:=⟨_,rfl⟩
  rw[hC] at hrun hC1 hC2
  obtain ⟨W,hW⟩:∃W,w.drew.alloc (.cells (([]:List Value).toArray++Builtin.zeroCells (Value.agg #[.bool false,.int .i64 0,.slice none 0 0,.slice none 0 0]).cells N++Builtin.zeroCells (Value.agg #[.bool false,.int .i64 0,.slice none 0 0,.slice none 0 0]).cells (C-(0+N))) 44)=W:=⟨_,rfl⟩
  rw[hW] at hrun
  rw[Nat.zero_add] at hrun hC1
  have hrow:Row W w.heap.size 44 4 (some ⟨w.heap.size,0,none⟩) 0 C []:=by
   refine ⟨by simp,.inr ⟨w.heap.size,C,_,rfl,Nat.le_refl _,by rw[<-hW];exact heap_alloc_new w.drew _,Nat.zero_le _,hC2,?_,by simp⟩⟩
   simp[size_zeroCells,Value.cells];omega
  have hbw:Below w.heap.size w W:=by
   rw[<-hW]
   exact ⟨rfl,rfl,rfl,by rw[World.size_alloc];exact Nat.le_succ _,fun k hk=>heap_alloc_old w.drew _ hk⟩
  have H:=Xh2 hrow hbw
  clear hW hrow hbw hC hC2
  go_enter Tryz.func202,Tryz.ntmps202
  go_wp2_with (at_builtin;refine Q0a rfl (.tmp 20) (.tmp 21) 25 3 rfl _ _ rfl rfl _ _ (hrun _) ?_)
  go_ret
  exact ⟨_,_,rfl,(Xo0 H),(Xe1 H)⟩
def Qvl (n m:Nat) (s3 s11:Value):Prop:=(s11=.int .i64 0/\s3=.int .i64 0)∨(s11=.int .i64 1/\s3=.int .i64 (n:Int))∨(s11=.int .i64 2/\s3=.int .i64 ((n+m:Nat):Int))
def Qpu (w wr:World) (n m:Nat) (ms ms2:List Q05) (s6 s27:Value):Prop:=Below w.heap.size w wr/\∃a k c mk xs,s6=.slice a k c/\Row wr w.heap.size 44 4 a k c xs/\Qa7 w mk xs/\
 ((s27=.int .i64 0/\k=0/\mk=[])∨(s27=.int .i64 1/\k=n/\mk=ms)∨(s27=.int .i64 2/\k=n+m/\mk=ms++ms2))
theorem Qpu.done {w wr:World} {k c:Nat} {a:Option Addr} (hb:Below w.heap.size w wr) {xs:List Value} (hr:Row wr w.heap.size 44 4 a k c xs) {mk:List Q05} (he:Qa7 w mk xs) (hk:mk.length=k):Q0c wr a k c mk:=by
 have hcap:=hr.cap
 refine ⟨hk,hcap.1,by have:=hcap.2;simpa[maxLen] using this,?_⟩
 rcases hr.form with ⟨_,h0,_⟩|⟨g,cur,rfl,_,hlt,_⟩
 ·exact .inl (List.eq_nil_of_length_eq_zero (by omega))
 ·refine .inr ⟨g,0,rfl,hlt,he.lie hb fun j u hj=>?_⟩
  obtain ⟨g',e,_,_,h2⟩:=hr.at_ hj
  injection e with e
  injection e with e
  subst e
  rw[Nat.zero_add];exact h2
theorem Qmg (sb:Nat) (a:Option Addr) (n c:Nat) (ms:List Q05) (b:Option Addr) (m d:Nat) (ms2:List Q05) (w:World) (h1:Q0c w a n c ms) (h2:Q0c w b m d ms2) (hl:sb<w.heap.size) (c0:w.cell? ⟨sb,0,none⟩=some (.slice a n c)) (c1:w.cell? ⟨sb,1,none⟩=some (.slice b m d)) (hn:n<=300) (hm:m<=300):
 Calls Tryz.prog 169 #[.slice (some ⟨sb,0,none⟩) 2 2] w fun r w'=>∃a' c',r=.returned (.slice a' (n+m) c')/\Q0c w' a' (n+m) c' (ms++ms2)/\Below w.heap.size w w':=by
 have hg:=Qsg (n+m) w (by omega)
 have H:=Xh6 h1 h2 hl c0 c1 hg
 have hn0:¬((n:Int)<0):=by omega
 have hm0:¬(((n+m:Nat):Int)<0):=by omega
 have hm1:(n:Int)+(m:Int)=((n+m:Nat):Int):=by omega
 have HM:=Xh2 hm0 hm1
 clear h1 h2 hl hg hm0 hm1
 go_enter Tryz.func169,Tryz.ntmps169
 go_wp2_with fail
 go_loopw [3,11] (fun s3 s11 wr=>Qvl n m s3 s11/\wr=w) (fun _ iv _=>2-(intOf iv).toNat)
 case atStart=>exact ⟨.inl ⟨rfl,rfl⟩,rfl⟩
 case round=>
  obtain ⟨hrel,rfl⟩:=hrel
  rename World=>w
  rcases hrel with ⟨rfl,rfl⟩|⟨rfl,rfl⟩|⟨rfl,rfl⟩
  ·go_wp2_with fail
   exact ⟨⟨.inr (.inl ⟨rfl,rfl⟩),.intro⟩,by simp only[intOf];decide⟩
  ·have hm0:¬(((n+m:Nat):Int)<0):=by omega
   have hw:wrap64 ((n:Int)+(m:Int))=((n+m:Nat):Int):=by unfold wrap64;omega
   go_wp2_with fail
   exact ⟨⟨.inr (.inr ⟨rfl,rfl⟩),.intro⟩,by simp only[intOf];decide⟩
  ·go_wp2_with (refine (Xe5 H).mono ?_;rintro r w1 ⟨a6,c6,rfl,hr6,hb6⟩;have H6:=Xh2 hr6 hb6;clear hr6 hb6)
   go_loopw [6,27] (fun s6 s27 wr=>Qpu w wr n m ms ms2 s6 s27) (fun _ iv _=>2-(intOf iv).toNat)
   case atStart=>exact ⟨(Xe1 H6),a6,0,c6,[],[],rfl,(Xo0 H6),rfl,.inl ⟨rfl,rfl,rfl⟩⟩
   case round=>
    obtain ⟨hbr,a7,k,c7,mk,xs,rfl,hr7,he7,⟨rfl,rfl,rfl⟩|⟨rfl,rfl,rfl⟩|⟨rfl,rfl,rfl⟩⟩:=hrel
    ·obtain ⟨a8,c8,w8,ys,hrun,hr8,he8,hb8⟩:=Q9j 25 w wr hbr a7 0 c7 xs hr7 a n c ms (Xo0 H) (by omega)
     rw[Nat.zero_add] at hrun hr8
     have H8:=Xh3 hr8 (Qa7.append he8 he7) hb8
     have k0:=(hbr.cell (p:=⟨sb,0,none⟩) (Xo2 H)).trans c0
     have k1:=(hbr.cell (p:=⟨sb,1,none⟩) (Xo2 H)).trans c1
     clear hr8 he8 hb8 hbr hr7 he7
     go_wp2_with (at_builtin;refine Q0a rfl (.tmp 31) (.tmp 32) 25 25 rfl _ _ rfl rfl _ _ hrun ?_)
     exact ⟨⟨(Xe2 H8),a8,n,c8,_,_,rfl,(Xo0 H8),(Xo1 H8),.inr (.inl ⟨rfl,rfl,rfl⟩)⟩,by simp only[intOf];decide⟩
    ·obtain ⟨a8,c8,w8,ys,hrun,hr8,he8,hb8⟩:=Q9j 25 w wr hbr a7 k c7 xs hr7 b m d ms2 (Xo1 H) (by omega)
     have H8:=Xh3 hr8 (Qa7.append he8 he7) hb8
     have k0:=(hbr.cell (p:=⟨sb,0,none⟩) (Xo2 H)).trans c0
     have k1:=(hbr.cell (p:=⟨sb,1,none⟩) (Xo2 H)).trans c1
     clear hr8 he8 hb8 hbr hr7 he7
     go_wp2_with (at_builtin;refine Q0a rfl (.tmp 31) (.tmp 32) 25 25 rfl _ _ rfl rfl _ _ hrun ?_)
     exact ⟨⟨(Xe2 H8),a8,k+m,c8,_,_,rfl,(Xo0 H8),(Xo1 H8),.inr (.inr ⟨rfl,rfl,rfl⟩)⟩,by simp only[intOf];decide⟩
    ·have H8:=Xh3 hbr hr7 he7
     clear hr7 he7 hbr
     go_wp2_with fail
     go_ret
     exact ⟨_,_,rfl,Qpu.done (Xo0 H8) (Xo1 H8) (Xe2 H8) (by rw[List.length_append,(Xo0 H).1,(Xo1 H).1]),(Xo0 H8)⟩
theorem Q19.lower {w0 w w':World} {n:Nat} {X:Except Int (List Q0b)} {r:Ending} (h:Q19 w n X r w') (hb:Below w0.heap.size w0 w):Q19 w0 n X r w':=⟨Below.next0 hb h.1,h.2⟩
theorem Q19.form {w w':World} {n:Nat} {X:Except Int (List Q0b)} {r:Ending} (h:Q19 w n X r w'):∃a l c er,r=.returned (.tuple #[.slice a l c,.int .i64 er]):=by
 obtain ⟨_,h⟩:=h
 cases X with
 |error e=>obtain ⟨a,l,c,rfl⟩:=h;exact ⟨a,l,c,e,rfl⟩
 |ok P=>obtain ⟨a,l,c,ms,rfl,_⟩:=h;exact ⟨a,l,c,0,rfl⟩
theorem Qiu (a:Option Addr) (n c:Nat) (ms:List Q05) (b:Option Addr) (m d:Nat) (ms2:List Q05) (k:Nat) (w:World) (h1:Q0c w a n c ms) (h2:Q0c w b m d ms2) (r1:Q0s k ms) (r2:Q0s k ms2) (hT:Q24 w):
 Calls Tryz.prog 140 #[.slice a n c,.slice b m d,.int .i64 (k:Int)] w (Q19 w k (Qnj (ms.map Q05.term) (ms2.map Q05.term))):=by
 have hk1:=r1.1
 have hk4:=r1.2.1
 have hn:n<=24:=by have:=r1.2.2.1;rw[h1.1] at this;exact this
 have hm:m<=24:=by have:=r2.2.2.1;rw[h2.1] at this;exact this
 have p1:=fun W (hb:Below w.heap.size w W)=>Q2d a n c ms k W (h1.step hb) (by omega)
 have p2:=fun W (hb:Below w.heap.size w W)=>Q2d b m d ms2 k W (h2.step hb) (by omega)
 have hX:Qnj (ms.map Q05.term) (ms2.map Q05.term)=Q1t ((ms++ms2).map Q05.term):=by rw[List.map_append];rfl
 rw[hX]
 clear hX
 obtain ⟨X,hX⟩:∃X,Q1t ((ms++ms2).map Q05.term)=X:=⟨_,rfl⟩
 rw[hX]
 have hform:∀m∈ms++ms2,Qip k m:=fun m hm=>by
  rcases List.mem_append.1 hm with h|h
  ·exact (r1.2.2.2.1 m h).1
  ·exact (r2.2.2.2.1 m h).1
 have hmk:=fun (a':Option Addr) (c':Nat) (W:World) (hb:Below w.heap.size w W) (h:Q0c W a' (n+m) c' (ms++ms2))=>by
  have:=Q51 a' (n+m) c' (ms++ms2) k W h hform hk1 hk4 (by omega) (hT.step hb)
  rw[hX] at this
  exact this
 have H:=Xh7 h1 h2 r1 r2 p1 p2 hmk
 clear h1 h2 r1 r2 p1 p2 hmk hX hform hT
 go_enter Tryz.func140,Tryz.ntmps140
 go_upto_region 3 with (first|(go_at_call_of 45 (Value.slice a n c);refine ((Xo4 H) _ (Below.refl _ _)).mono ?_;rintro r w1 ⟨⟨x,rfl,hx⟩,hb1⟩;(have hxt:x=true:=hx.2 (Xo2 H));clear hx;subst hxt;have H1:=Lib.hid hb1;clear hb1)|(go_at_call_of 45 (Value.slice b m d);refine ((Xo5 H) _ H1.out).mono ?_;rintro r w2 ⟨⟨x,rfl,hx⟩,hb2⟩;(have hxt:x=true:=hx.2 (Xo3 H));clear hx;subst hxt;have H2:=Lib.hid hb2;clear hb2))
 have hb2:=Below.next0 H1.out H2.out
 have hb3:=hb2.alloc hb2.size (.cells #[.slice a n c,.slice b m d] 25)
 have hnew:=heap_alloc_new w2 (.cells #[.slice a n c,.slice b m d] 25)
 have hcat:=Qmg w2.heap.size a n c ms b m d ms2 (w2.alloc (.cells #[.slice a n c,.slice b m d] 25)) ((Xo0 H).step hb3) ((Xo1 H).step hb3) (Q0f _ _) (by rw[cell_of_row _ _ _ _ _ _ hnew];rfl) (by rw[cell_of_row _ _ _ _ _ _ hnew];rfl) (by omega) (by omega)
 have H3:=Xh2 hb3 hcat
 clear hb2 hb3 hnew hcat
 go_wp2_with (first|(go_at_call_of 169 (Value.slice (some ⟨w2.heap.size,0,none⟩) 2 2);refine (Xe1 H3).mono ?_;rintro r w4 ⟨a4,c4,rfl,hm4,hb4⟩;have H4:=Xh2 hm4 (Below.next0 (Xo0 H3) hb4);clear hm4 hb4)|(go_at_call_of 83 (Value.slice a4 (n+m) c4);refine ((Xe6 H) a4 c4 _ (Xe1 H4) (Xo0 H4)).mono ?_;rintro r w5 hres;obtain ⟨a5,l5,c5,er,rfl⟩:=hres.form;have H5:=Lib.hid (hres.lower (Xe1 H4));clear hres))
 exact ⟨rfl,.tuple #[.slice a5 l5 c5,.int .i64 er],by simp[results,go_sem],H5.out⟩
end Go.Proofs.YtdilmfakkppgpaaGreatDoor
