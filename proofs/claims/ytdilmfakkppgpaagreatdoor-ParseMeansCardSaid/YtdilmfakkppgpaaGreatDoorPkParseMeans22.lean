/- Part 22 of the proof of LawParseMeans: Mul, RdrG. Condition: as each theorem says; none at the end. -/
import Derived.Test.YtdilmfakkppgpaaGreatDoorPkParseMeans21
set_option maxRecDepth 100000
set_option maxHeartbeats 16000000
namespace Go.Proofs.YtdilmfakkppgpaaGreatDoor
open Go.RowKit WordsM
theorem Q0s.plain {w:World} {a:Option Addr} {n c k:Nat} {ms:List Q05} (h:Q0s k ms) (hm:Q0c w a n c ms):Q18 k (ms.map Q05.term):=by
 obtain ⟨_,_,h3,h4,h5⟩:=h
 refine ⟨?_,by rw[List.length_map];exact h3,fun p hp=>?_⟩
 ·unfold Qa2
  rw[List.pairwise_map]
  exact h5
 ·obtain ⟨m,hmm,rfl⟩:=List.mem_map.1 hp
  obtain ⟨j,hj,rfl⟩:=List.getElem_of_mem hmm
  rcases hm.2.2.2 with h0|⟨b,o,_,_,hat⟩
  ·rw[h0] at hj;simp at hj
  ·obtain ⟨_,_,_,_,_,_,_,_,_,_,hw,_⟩:=hat j _ (List.getElem?_eq_getElem hj)
   obtain ⟨⟨q1,q2⟩,q3⟩:=h4 _ hmm
   exact ⟨fun e=>q3 ((Q5e q2 hw.low).1 e),Qch q2 hw.low,q1⟩
theorem Q1x.monos {B n c:Nat} {w:World} {a:Option Addr} {all:List Q05} (h:Q1x B w a n c all) (hok:∀m∈all,Q0h m.neg m.exp m.ws):Q0c w a n c all:=by
 obtain ⟨xs,hr⟩:=h.row
 have hcap:=hr.1.cap
 refine ⟨h.len,hcap.1,by have:=hcap.2;simpa[maxLen] using this,?_⟩
 rcases hr.1.form with ⟨_,h0,_⟩|⟨g,cur,rfl,_,hlt,_⟩
 ·exact .inl (List.eq_nil_of_length_eq_zero (by rw[h.len];exact h0))
 ·refine .inr ⟨g,0,rfl,hlt,fun j m hm=>?_⟩
  obtain ⟨g',e,aw,lw,cw,be,oe,le,ce,q0,q1,q2,q3,hw,hi,_,_⟩:=h.ent j m hm
  injection e with e
  injection e with e
  subst e
  have hb:=Q3d (hok m (List.mem_of_getElem? hm)) hw.low
  rw[Nat.zero_add]
  exact ⟨aw,lw,cw,_,le,ce,q0,q1,q2,q3,hw,hi,by omega,by omega⟩
theorem Quj (P:List Q0b) (h:∀p∈P,p.2.sum<=8):∀d:Int,d<=8->P.foldl (fun d p=>max d p.2.sum) d<=8:=by
 induction P with
 |nil=>exact fun d hd=>hd
 |cons q r ih=>
  intro d hd
  rw[List.foldl_cons]
  have:=h q (by simp)
  exact ih (fun p hp=>h p (by simp[hp])) _ (by omega)
theorem Qd1 {k:Nat} {ms:List Q05} (h:Q0s k ms):0<=Qik ms/\Qik ms<=8:=⟨Qu2 _,Quj _ (fun p hp=>by
 obtain ⟨m,hm,rfl⟩:=List.mem_map.1 hp
 exact (h.2.2.2.1 m hm).1.1.2.2) 0 (by decide)⟩
def Qvm (w:World) (ms ms2:List Q05) (s8 s45:Value) (wx:World):Prop:=∃(i:Nat) (a:Option Addr) (N c:Nat) (all:List Q05),s8=.slice a N c/\s45=.int .i64 (i:Int)/\i<=ms.length/\N<=24*i/\Q1x w.heap.size wx a N c all/\
 all.map Q05.term=Q64 ((ms.take i).map Q05.term) (ms2.map Q05.term)/\(∀m∈all,Q0h m.neg m.exp m.ws/\Q63 m.term.1)/\Below w.heap.size w wx
def Qwk (w:World) (ms2:List Q05) (i:Nat) (T:List Q0b) (x:Q05) (P:Nat) (v2 v3 s8 s51:Value) (wx:World):Prop:=∃(j:Nat) (a:Option Addr) (N c:Nat) (all:List Q05),s8=.slice a N c/\s51=.int .i64 (j:Int)/\j<=ms2.length/\N<=24*i+j/\Q1x w.heap.size wx a N c all/\
 all.map Q05.term=T++((ms2.take j).map Q05.term).map (Qrm x.term)/\(∀m∈all,Q0h m.neg m.exp m.ws/\Q63 m.term.1)/\Q2s wx P (.bool x.neg) (.int .i64 x.exp) v2 v3/\P<wx.heap.size/\(∀y,a=some y->y.block≠P)/\Below w.heap.size w wx
theorem Qpv {ms:List Q05} {i:Nat} {x:Q05} (hx:ms[i]?=some x) (b:List Q0b):Q64 ((ms.take (i+1)).map Q05.term) b=Q64 ((ms.take i).map Q05.term) b++b.map (Qrm x.term):=by
 rw[List.take_add_one,hx,List.map_append]
 simp[Q64,List.flatMap_append]
theorem Qbd (a:Option Addr) (n c:Nat) (ms:List Q05) (b:Option Addr) (m d:Nat) (ms2:List Q05) (k:Nat) (w:World) (h1:Q0c w a n c ms) (h2:Q0c w b m d ms2) (r1:Q0s k ms) (r2:Q0s k ms2) (hT:Q24 w):
 Calls Tryz.prog 141 #[.slice a n c,.slice b m d,.int .i64 (k:Int)] w (Q19 w k (Qau (ms.map Q05.term) (ms2.map Q05.term))):=by
 have hk1:=r1.1
 have hk4:=r1.2.1
 have hln:=h1.1
 have hlm:=h2.1
 have hn:n<=24:=by have:=r1.2.2.1;rw[h1.1] at this;exact this
 have hm:m<=24:=by have:=r2.2.2.1;rw[h2.1] at this;exact this
 have p1:=fun W (hb:Below w.heap.size w W)=>Q2d a n c ms k W (h1.step hb) (by omega)
 have p2:=fun W (hb:Below w.heap.size w W)=>Q2d b m d ms2 k W (h2.step hb) (by omega)
 have d1:=fun W (hb:Below w.heap.size w W)=>Qcs a n c ms k W (h1.step hb) r1
 have d2:=fun W (hb:Below w.heap.size w W)=>Qcs b m d ms2 k W (h2.step hb) r2
 obtain ⟨i0,hi0,hz0,hz1,hz2⟩:=Q0t Q45
 have HI:=Xh4 hi0 hz0 hz1 hz2
 clear hi0 hz0 hz1 hz2
 obtain ⟨X,hX⟩:∃X,Qau (ms.map Q05.term) (ms2.map Q05.term)=X:=⟨_,rfl⟩
 rw[hX]
 have H:=Xh8 h1 h2 r1 r2 p1 p2 hX hT
 have HD:=Xh2 d1 d2
 have HDB:=Xh2 (Qd1 r1) (Qd1 r2)
 clear h1 h2 r1 r2 p1 p2 hX hT d1 d2
 go_enter Tryz.func141,Tryz.ntmps141
 go_upto_block 0 with fail
 go_cut [] (fun wx=>¬(ms≠[]/\ms2≠[]/\8<Qik ms+Qik ms2)/\Below w.heap.size w wx)
 case first=>
  go_upto_region 3 with (first|(go_at_call_of 45 (Value.slice a n c);refine ((Xo4 H) _ (Below.refl _ _)).mono ?_;rintro r w1 ⟨⟨x,rfl,hx⟩,hb1⟩;(have hxt:x=true:=hx.2 (Xo2 H));clear hx;subst hxt;have H1:=Lib.hid hb1;clear hb1)|(go_at_call_of 45 (Value.slice b m d);refine ((Xo5 H) _ H1.out).mono ?_;rintro r w2 ⟨⟨x,rfl,hx⟩,hb2⟩;(have hxt:x=true:=hx.2 (Xo3 H));clear hx;subst hxt;have H2:=Lib.hid (Below.next0 H1.out hb2);clear hb2))
  by_cases hm0:ms=[]
  ·have hn1:¬((0:Int)<(n:Int)):=by rw[<-hln,hm0];decide
   have HM0:=Lib.hid hm0
   clear hm0
   go_wp2_with fail
   go_meet
   exact ⟨fun h=>h.1 HM0.out,H2.out⟩
  ·have hn1:(0:Int)<(n:Int):=by have:=List.length_pos_iff.2 hm0;omega
   have HM0:=Lib.hid hm0
   clear hm0
   by_cases hm2:ms2=[]
   ·have hn2:¬((0:Int)<(m:Int)):=by rw[<-hlm,hm2];decide
    have HM2:=Lib.hid hm2
    clear hm2
    go_wp2_with fail
    go_meet
    exact ⟨fun h=>h.2.1 HM2.out,H2.out⟩
   ·have hn2:(0:Int)<(m:Int):=by have:=List.length_pos_iff.2 hm2;omega
    have HM2:=Lib.hid hm2
    clear hm2
    have e1:=(Xo0 HDB)
    have e2:=(Xe1 HDB)
    by_cases h8:8<Qik ms+Qik ms2
    ·have hX6:X=.error 6:=by
      rw[<-(Xo6 H)]
      unfold Qau
      rw[if_pos ⟨by simpa using HM0.out,by simpa using HM2.out,h8⟩]
     have HX:=Lib.hid hX6
     clear hX6
     go_wp2_with (first|(go_at_call_of 18 (Value.slice a n c);refine ((Xo0 HD) _ H2.out).mono ?_;rintro r w3 ⟨rfl,hb3⟩;have H3:=Lib.hid (Below.next0 H2.out hb3);clear hb3)|(go_at_call_of 18 (Value.slice b m d);refine ((Xe1 HD) _ H3.out).mono ?_;rintro r w4 ⟨rfl,hb4⟩;have H4:=Lib.hid (Below.next0 H3.out hb4);clear hb4))
     exact ⟨rfl,.tuple #[.slice none 0 0,.int .i64 6],by simp[results,go_sem],Q19.err HX.out H4.out⟩
    ·have H8:=Lib.hid h8
     go_wp2_with (first|(go_at_call_of 18 (Value.slice a n c);refine ((Xo0 HD) _ H2.out).mono ?_;rintro r w3 ⟨rfl,hb3⟩;have H3:=Lib.hid (Below.next0 H2.out hb3);clear hb3)|(go_at_call_of 18 (Value.slice b m d);refine ((Xe1 HD) _ H3.out).mono ?_;rintro r w4 ⟨rfl,hb4⟩;have H4:=Lib.hid (Below.next0 H3.out hb4);clear hb4))
     go_meet
     exact ⟨fun h=>by have h1:=H8.out;have h2:=h.2.2;omega,H4.out⟩
 case rest=>
  obtain ⟨hnd,hbc⟩:=hcut
  have HC:=Xh2 hnd hbc
  clear hnd hbc
  go_wp2_with fail
  go_loopw [8,45] (fun s8 s45 wr=>Qvm w ms ms2 s8 s45 wr) (fun _ iv _=>n-(intOf iv).toNat)
  case atStart=>exact ⟨0,none,0,0,[],rfl,rfl,Nat.zero_le _,Nat.zero_le _,Q1x.nil_ _ _,rfl,(fun m hm=>by cases hm),(Xe1 HC)⟩
  case round=>
   obtain ⟨i,a1,N,c1,all,rfl,rfl,hi,hN,hall,hterm,hok,hbr⟩:=hrel
   by_cases hlt:i<ms.length
   ·have hlt':(i:Int)<(n:Int):=by omega
    obtain ⟨x,hx⟩:∃x,ms[i]?=some x:=⟨_,List.getElem?_eq_getElem hlt⟩
    obtain ⟨b0,o0,rfl,hb0,hat⟩:∃b o,a=some ⟨b,o,none⟩/\b<w.heap.size/\∀j m,ms[j]?=some m->Q4a w b (o+j*4) m:=by
     rcases (Xo0 H).2.2.2 with h0|h0
     ·rw[h0] at hlt;simp at hlt
     ·exact h0
    obtain ⟨aw,lw,cw,ae,le,ce,k0,k1,k2,k3,hw,he,hx1,hx2⟩:=hat i x hx
    have hkx:OkM k x:=(Xo2 H).2.2.2.1 x (List.mem_of_getElem? hx)
    have k0:=(hbr.cell (p:=⟨b0,o0+i*4,none⟩) hb0).trans k0
    have k1:=(hbr.cell (p:=⟨b0,o0+i*4+1,none⟩) hb0).trans k1
    have k2:=(hbr.cell (p:=⟨b0,o0+i*4+2,none⟩) hb0).trans k2
    have k3:=(hbr.cell (p:=⟨b0,o0+i*4+3,none⟩) hb0).trans k3
    have hX:=Q2s.new wr (.bool x.neg) (.int .i64 x.exp) (.slice aw lw cw) (.slice ae le ce) 44
    have hbx:Below wr.heap.size wr (wr.alloc (.cells #[.bool x.neg,.int .i64 x.exp,.slice aw lw cw,.slice ae le ce] 44)):=(Below.refl _ _).alloc (Nat.le_refl _) _
    have hlx:=Q0f wr (.cells #[.bool x.neg,.int .i64 x.exp,.slice aw lw cw,.slice ae le ce] 44)
    have hne:∀y,a1=some y->y.block≠wr.heap.size:=fun y hy=>by have:=(hall.lt hy).2;omega
    have HR:=Xh12 hall hterm hok hbr hx hw he hkx hX hbx hlx hne
    clear hall hterm hok hbr hx hw he hkx hX hbx hlx hne hat hx1 hx2
    go_wp2_with fail
    rename World=>wl
    go_loopw [8,51] (fun s8 s51 wx=>Qwk w ms2 i (Q64 ((ms.take i).map Q05.term) (ms2.map Q05.term)) x wl.heap.size (.slice aw lw cw) (.slice ae le ce) s8 s51 wx) (fun _ iv _=>m-(intOf iv).toNat)
    case atStart=>exact ⟨0,a1,N,c1,all,rfl,rfl,Nat.zero_le _,by omega,(Xo0 HR).step (Xo9 HR),by rw[List.take_zero,List.map_nil,List.map_nil,List.append_nil];exact (Xo1 HR),(Xo2 HR),(Xo8 HR),(Xo10 HR),(Xe11 HR),Below.next0 (Xo3 HR) (Xo9 HR)⟩
    case round=>
     obtain ⟨j,a2,N2,c2,all2,rfl,rfl,hj,hN2,hall,hterm,hok,hX,hlX,hne,hbr⟩:=hrel
     by_cases hjt:j<ms2.length
     ·have hjt':(j:Int)<(m:Int):=by omega
      obtain ⟨y,hy⟩:∃y,ms2[j]?=some y:=⟨_,List.getElem?_eq_getElem hjt⟩
      obtain ⟨b1,o1,rfl,hb1,hat⟩:∃b' o,b=some ⟨b',o,none⟩/\b'<w.heap.size/\∀j m,ms2[j]?=some m->Q4a w b' (o+j*4) m:=by
       rcases (Xo1 H).2.2.2 with h0|h0
       ·rw[h0] at hjt;simp at hjt
       ·exact h0
      obtain ⟨ay,ly,cy,ax,lx,cx,j0,j1,j2,j3,hwy,hey,hy1,hy2⟩:=hat j y hy
      have hky:OkM k y:=(Xo3 H).2.2.2.1 y (List.mem_of_getElem? hy)
      have j0:=(hbr.cell (p:=⟨b1,o1+j*4,none⟩) hb1).trans j0
      have j1:=(hbr.cell (p:=⟨b1,o1+j*4+1,none⟩) hb1).trans j1
      have j2:=(hbr.cell (p:=⟨b1,o1+j*4+2,none⟩) hb1).trans j2
      have j3:=(hbr.cell (p:=⟨b1,o1+j*4+3,none⟩) hb1).trans j3
      have hY:=Q2s.new wr (.bool y.neg) (.int .i64 y.exp) (.slice ay ly cy) (.slice ax lx cx) 44
      have hby:Below wr.heap.size wr (wr.alloc (.cells #[.bool y.neg,.int .i64 y.exp,.slice ay ly cy,.slice ax lx cx] 44)):=(Below.refl _ _).alloc (Nat.le_refl _) _
      have hbw:=Below.next0 hbr hby
      have hX2:=hX.step hby hlX
      have hp:=Qim x.neg x.exp aw lw cw x.ws ae le ce x.es y.neg y.exp ay ly cy y.ws ax lx cx y.es k _ ((Xo5 HR).step hbw) ((Xo6 HR).step hbw) (hwy.step hbw) (hey.step hbw) (Xo7 HR).1.2 hky.1.2 (Xo7 HR).1.1 hky.1.1 hk1 hk4 ((Xe7 H).step hbw)
      have e0:=hX2.c0
      have e1:=hX2.c1
      have e2:=hX2.c2
      have e3:=hX2.c3
      have f0:=hY.c0
      have f1:=hY.c1
      have f2:=hY.c2
      have f3:=hY.c3
      have HS:=Xh11 hall hterm hok hX hlX hne hbr hy hby hbw hp
      clear hall hterm hok hX hlX hne hbr hy hby hbw hp hwy hey hky hY hX2 hat hy1 hy2
      go_upto_region 13 with (go_at_call_of 170 (Value.agg #[.bool x.neg,.int .i64 x.exp,.slice aw lw cw,.slice ae le ce]);refine (Xe10 HS).mono ?_;rintro r w8 ⟨n',e',a',l',c',L,er,be,le',ce',rfl,hfo,hnw,hie,⟨g8,rfl,hg8⟩,hb8⟩;have H8:=Xh5 hfo hnw hie hg8 hb8;clear hfo hnw hie hg8 hb8)
      rcases (Xo0 H8) with ⟨hfits,rfl,hnum,hval⟩|⟨hnf,rfl,_⟩
      ·have hV:=Q2s.new w8 (.bool n') (.int .i64 e') (.slice a' l' c') (.slice (some ⟨g8,0,none⟩) le' ce') 44
       have hb9:Below w8.heap.size w8 (w8.alloc (.cells #[.bool n',.int .i64 e',.slice a' l' c',.slice (some ⟨g8,0,none⟩) le' ce'] 44)):=(Below.refl _ _).alloc (Nat.le_refl _) _
       have hb8w:=Below.next0 (Xo8 HS) (Xe4 H8)
       have hb8a:=Below.next0 (Xo9 HS) (Xe4 H8)
       have hb9w:=Below.next0 hb8w hb9
       have hb9a:=Below.next0 hb8a hb9
       have houts:=(Xo0 HS).step hb9w
       obtain ⟨xs,hr⟩:=houts.row
       obtain ⟨hi0,hz0,hz1,hz2⟩:=HI.out
       have hB6:w.heap.size<=((w8.alloc (.cells #[.bool n',.int .i64 e',.slice a' l' c',.slice (some ⟨g8,0,none⟩) le' ce'] 44)).alloc (.cells #[.bool n',.int .i64 e',.slice a' l' c',.slice (some ⟨g8,0,none⟩) le' ce'] 44)).heap.size:=by
        have:=hb9a.size;rw[World.size_alloc];omega
       obtain ⟨g6,c6,w6,hrun6,hrow6,hgr6,hat6⟩:=Q1f (P:=Tryz.prog) NoU ((w8.alloc (.cells #[.bool n',.int .i64 e',.slice a' l' c',.slice (some ⟨g8,0,none⟩) le' ce'] 44)).alloc (.cells #[.bool n',.int .i64 e',.slice a' l' c',.slice (some ⟨g8,0,none⟩) le' ce'] 44)) 25 25 44 i0 _ 4 64 Tryz.underlying25 hi0 hz0 hz1 hz2 rfl Q6r w.heap.size hB6 a2 N2 c2 xs (hr.step ((Below.refl _ _).alloc (Nat.le_refl _) _)) (w8.alloc (.cells #[.bool n',.int .i64 e',.slice a' l' c',.slice (some ⟨g8,0,none⟩) le' ce'] 44)).heap.size 1 1 [.bool n',.int .i64 e',.slice a' l' c',.slice (some ⟨g8,0,none⟩) le' ce'] rfl (World.news_of_block (cs:= #[.bool n',.int .i64 e',.slice a' l' c',.slice (some ⟨g8,0,none⟩) le' ce']) (heap_alloc_new _ _)) (by simp[Value.oneCell']) (by intro u hu;simp at hu;rcases hu with rfl|rfl|rfl|rfl <;> exact fun _=>by simp[nv]) (by decide) (by omega) (by decide) (by decide)
       rw[World.size_alloc w8] at hrun6
       have t0:=hV.c0
       have t1:=hV.c1
       have t2:=hV.c2
       have t3:=hV.c3
       have HV:=Xh12 hfits hnum hval hb9w hb9a houts hr hrow6 hgr6 hat6 hb9 hb8w
       clear hfits hnum hval hb9w hb9a houts hr hrow6 hgr6 hat6 hb9 hb8a hb8w hB6 hV hi0 hz0 hz1 hz2 e0 e1 e2 e3 f0 f1 f2 f3
       go_wp2_with (at_builtin;refine Q0a rfl (.tmp 64) (.tmp 66) 25 25 rfl _ _ rfl rfl _ _ hrun6 ?_)
       obtain ⟨hfits,hnum,hval,hb9w,hb9a,houts,hr,hrow6,hgr6,hat6,hb9,hb8w⟩:=HV.out
       have hE:List.zipWith (·+·) x.es y.es≠[]:=fun e=>by
        have h1:=congrArg List.length e
        have h2:=((Xo7 HR).1.1).1
        have h3:=((Xo3 H).2.2.2.1 y (List.mem_of_getElem? (Xo7 HS))).1.1.1
        rw[List.length_zipWith,h2,h3] at h1
        simp at h1;omega
       have hg8l:g8<w8.heap.size:=by
        rcases (Xo2 H8).rd with h0|⟨bb,oo,e,hbb,_⟩
        ·exact absurd h0 hE
        ·injection e with e
         injection e with e
         subst e
         exact hbb
       have hP:wl.heap.size<w8.heap.size:=Nat.lt_of_lt_of_le (Xo4 HS) hb8w.size
       have hpush:=houts.push hr (o:=(.cells #[.bool n',.int .i64 e',.slice a' l' c',.slice (some ⟨g8,0,none⟩) le' ce'] 44)) hgr6 hat6 (m:=⟨n',e',L,List.zipWith (·+·) x.es y.es⟩) hrow6 rfl ((Xo1 H8).toWordsIn.step hb9) ((Xo2 H8).step hb9) (by rw[World.size_alloc];omega) (fun z hz e=>by
        have h1:=((Xo0 HS).lt hz).2
        have h2:=(Xo3 H8)
        rw[World.size_alloc] at h2
        omega)
       have hb10:=hb9a.alloc hb9a.size (.cells #[.bool n',.int .i64 e',.slice a' l' c',.slice (some ⟨g8,0,none⟩) le' ce'] 44)
       have hbw6:Below w.heap.size w w6:=hb10.trans ⟨hgr6.os,hgr6.tape,hgr6.output,hgr6.size,fun z hz=>hgr6.block z (Nat.lt_of_lt_of_le hz hb10.size) (fun e=>by
        cases a2 with
        |none=>simp at e
        |some q=>simp only[Option.map_some,Option.some.injEq] at e;have:=((Xo0 HS).lt rfl).1;omega)⟩
       have hP6:wl.heap.size<((w8.alloc (.cells #[.bool n',.int .i64 e',.slice a' l' c',.slice (some ⟨g8,0,none⟩) le' ce'] 44)).alloc (.cells #[.bool n',.int .i64 e',.slice a' l' c',.slice (some ⟨g8,0,none⟩) le' ce'] 44)).heap.size:=by rw[World.size_alloc,World.size_alloc];omega
       have hX6:Q2s w6 wl.heap.size (.bool x.neg) (.int .i64 x.exp) (.slice aw lw cw) (.slice ae le ce):=
        (((Xo3 HS).step hb9w (Xo4 HS)).step ((Below.refl _ _).alloc (Nat.le_refl _) (.cells #[.bool n',.int .i64 e',.slice a' l' c',.slice (some ⟨g8,0,none⟩) le' ce'] 44)) (by rw[World.size_alloc];omega)).onKept (hgr6.block _ hP6 (fun e=>by
          cases a2 with
          |none=>simp at e
          |some q=>simp only[Option.map_some,Option.some.injEq] at e;exact (Xo5 HS) q rfl e.symm))
       refine ⟨⟨j+1,_,N2+1,c6,_,rfl,congrArg (Value.int .i64) (by omega),hjt,by omega,hpush,?_,fun m' hm'=>?_,hX6,Nat.lt_of_lt_of_le hP6 hgr6.size,fun q hq=>?_,hbw6⟩,by simp only[intOf];omega⟩
       ·rw[List.map_append,(Xo1 HS),List.take_add_one,(Xo7 HS),List.map_append,List.map_append,<-List.append_assoc]
        congr 1
        show [(Q1q n' e' L,List.zipWith (·+·) x.es y.es)]=[Qrm x.term y.term]
        rw[hval];rfl
       ·rcases List.mem_append.1 hm' with h1|h1
        ·exact (Xo2 HS) m' h1
        ·rw[List.mem_singleton] at h1
         subst h1
         refine ⟨hnum,?_⟩
         show Q63 (Q1q n' e' L)
         rw[hval];exact hfits
       ·injection hq with hq
        subst hq
        rcases hat6 with h1|h1
        ·exact (Xo5 HS) _ h1
        ·show g6≠_
         omega
      ·have hX2:X=.error 2:=by
        rw[<-(Xo6 H)]
        unfold Qau
        rw[if_neg (by have h0:=(Xo0 HC);unfold Qik at h0;simpa using h0),if_pos]
        rw[List.any_eq_true]
        refine ⟨Qrm x.term y.term,?_,?_⟩
        ·refine List.mem_flatMap.2 ⟨x.term,List.mem_map.2 ⟨x,List.mem_of_getElem? (Xo4 HR),rfl⟩,List.mem_map.2 ⟨y.term,List.mem_map.2 ⟨y,List.mem_of_getElem? (Xo7 HS),rfl⟩,rfl⟩⟩
        ·have:Q8q (Qrm x.term y.term).1=false:=(Qdt _).2 hnf
         rw[this];rfl
       have HX:=Xh2 hX2 hnf
       clear hX2 hnf
       go_wp2_with fail
       exact ⟨rfl,.tuple #[.slice none 0 0,.int .i64 2],by simp[results,go_sem],Q19.err (Xo0 HX) (Below.next0 (Below.next0 (Xo9 HS) (Xe4 H8)) ((Below.refl _ _).alloc (Nat.le_refl _) _))⟩
     ·have hjt':¬((j:Int)<(m:Int)):=by omega
      have hje:j=ms2.length:=by omega
      rw[hje,List.take_length] at hterm
      have HJ:=Xh4 hall hterm hok hbr
      clear hall hterm hok hbr hje hX hlX hne
      go_wp2_with fail
      exact ⟨⟨i+1,a2,N2,c2,all2,rfl,congrArg (Value.int .i64) (by omega),hlt,by omega,(Xo0 HJ),by rw[Qpv (Xo4 HR)];exact (Xo1 HJ),(Xo2 HJ),(Xe3 HJ)⟩,by simp only[intOf];omega⟩
   ·have hlt':¬((i:Int)<(n:Int)):=by omega
    have hie:i=ms.length:=by omega
    rw[hie,List.take_length] at hterm
    have hright:=Qco ((Xo2 H).plain (Xo0 H)) ((Xo3 H).plain (Xo1 H)) (by have h0:=(Xo0 HC);unfold Qik at h0;simpa using h0)
    have hform:∀m∈all,Qip k m:=fun m hm=>⟨hright m.term (by rw[<-hterm];exact List.mem_map.2 ⟨m,hm,rfl⟩),(hok m hm).1⟩
    have hXX:X=Q1t (all.map Q05.term):=by
     rw[<-(Xo6 H),hterm]
     unfold Qau
     rw[if_neg (by have h0:=(Xo0 HC);unfold Qik at h0;simpa using h0),if_neg]
     rw[List.any_eq_true]
     rintro ⟨p,hp,hf⟩
     rw[<-hterm] at hp
     obtain ⟨m,hm,rfl⟩:=List.mem_map.1 hp
     rw[(Q1g _).2 (hok m hm).2] at hf
     cases hf
    have hmk:=Q51 a1 N c1 all k wr (hall.monos fun m hm=>(hok m hm).1) hform hk1 hk4 (by omega) ((Xe7 H).step hbr)
    rw[<-hXX] at hmk
    have HK:=Xh2 hmk hbr
    clear hmk hbr hXX hform hright hterm hok hall hie
    go_wp2_with (refine (Xo0 HK).mono ?_;rintro r w5 hres;obtain ⟨a5,l5,c5,er,rfl⟩:=hres.form;have H5:=Lib.hid (hres.lower (Xe1 HK));clear hres)
    exact ⟨rfl,.tuple #[.slice a5 l5 c5,.int .i64 er],by simp[results,go_sem],H5.out⟩
end Go.Proofs.YtdilmfakkppgpaaGreatDoor
namespace Go.Proofs.YtdilmfakkppgpaaGreatDoor
open Go.RowKit WordsM DecM
theorem Qpw (sub:Nat->PR Ex) (opens:Bool) (L:List UInt8) (most f p:Nat) (below:Bool) (acc:List (Bool × Ex)) (bad:Bool):Q44 bad p (Q7v sub opens L most (f+1) p below acc)=(match Q44 bad p (Q38 sub opens L most (L.length+1) p []) with
 | .error e=>.error e
 | .ok (x,q)=>if Q09 L (Q07 L q)=43 then Q7v sub opens L most f (Q07 L q+1) false (acc++[(below,x)])
   else if Q09 L (Q07 L q)=45 then Q7v sub opens L most f (Q07 L q+1) true (acc++[(below,x)])
   else .ok (.sum (acc++[(below,x)]),Q07 L q)):=by
 cases bad
 ·show Q7v sub opens L most (f+1) p below acc=_
  rw[Q7v];rfl
 ·rfl
theorem Qvn {R:Nat} {w w':World} {g n c g2 c2:Nat} {acc:List (Bool × Ex)} {vs:List Value} (h:Q9t R w w' (some ⟨g,0,none⟩) n c (some ⟨g2,0,none⟩) c2 acc vs) (h0:acc≠[]):Q2k (·<w.heap.size) w' (.sum acc) (.iface 130 (.agg #[.slice (some ⟨g,0,none⟩) n c,.slice (some ⟨g2,0,none⟩) n c2])):=by
 have hlow:∀k,k<w.heap.size->fpX w.heap.size (some ⟨g,0,none⟩) (some ⟨g2,0,none⟩) k∨w'.heap.size<=k:=fun k hk=>.inl (.inl (Nat.le_of_lt hk))
 have hg:=Q1i h.ra rfl
 have hg2:=Q1i h.rb rfl
 have hc:=h.ra.cap
 have hc2:=h.rb.cap
 have hg1:w.heap.size+1<=g:=hg.1
 have hg3:w.heap.size+1<=g2:=hg2.1
 rw[Q2k]
 refine ⟨g,g2,c,c2,by rw[h.len],fun hk=>by omega,fun hk=>by omega,hg.2,hg2.2,by rw[h.len];exact hc.1,hc.2,by rw[h.len];exact hc2.1,hc2.2,h0,(h.nodes.more hlow).rows 0 (fun j v hv=>?_) fun j t ht=>?_⟩
 ·obtain ⟨g',e,_,_,hcell⟩:=h.ra.at_ hv
  injection e with e
  injection e with e
  subst e
  rw[Nat.zero_add];exact hcell
 ·have hv:(acc.map fun z=>Value.bool z.1)[j]?=some (.bool t):=by
   rw[List.getElem?_map] at ht⊢
   cases hz:acc[j]? with
   |none=>rw[hz] at ht;cases ht
   |some z=>rw[hz] at ht;injection ht with ht;rw[<-ht];rfl
  obtain ⟨g',e,_,_,hcell⟩:=h.rb.at_ hv
  injection e with e
  injection e with e
  subst e
  rw[Nat.zero_add];exact hcell
def Quk (R:Nat) (s:ByteArray) (L:List UInt8) (sub:Nat->PR Ex) (opens:Bool) (most:Nat) (d:Int) (w:World) (X:PR Ex) (bv:Value) (wx:World):Prop:=
 ∃(below:Bool) (p1:Nat) (bd:Bool),bv=.bool below/\Q9t R w wx none 0 0 none 0 [] []/\Q0p wx R s (p1:Int) (most:Int) d bd/\p1<=s.size/\X=Q44 bd p1 (Q7v sub opens L most (s.size+1) p1 below [])
theorem Q6u {w:World} {R:Nat} {s:ByteArray} {p most:Nat} {d:Int} {bad:Bool} (sub:Nat->PR Ex) (h:Q0p w R s (p:Int) (most:Int) d bad) (hp:p<=s.size) (hs:s.size<=1000000) (hd0:0<=d) (hd:d<=16) (hT:∀W,Q0n (OnR R) w W->Q24 W) (hmv:decide (d<16)=true->∀p,p<=s.data.toList.length->Q5h s.data.toList p (sub p))
 (hsub:d<16->∀(W:World) (q:Nat),Q0p W R s (q:Int) (most:Int) (d+1) false->q<=s.size->(∀W',Q0n (OnR R) W W'->Q24 W')->Calls Tryz.prog 80 #[.pointer (some ⟨R,0,none⟩)] W (Q5u R s (most:Int) (d+1) (sub q) W)):
 Calls Tryz.prog 80 #[.pointer (some ⟨R,0,none⟩)] w (Q5u R s (most:Int) d (Q44 bad p (Q4e sub (decide (d<16)) s.data.toList most p)) w):=by
 obtain ⟨i0,hi0,hz0,hz1,hz2⟩:=Q0t Qg0
 obtain ⟨i1,hi1,hy0,hy1,hy2⟩:=Q0t Qpn
 obtain ⟨L,hL⟩:∃L,s.data.toList=L:=⟨_,rfl⟩
 have hLs:L.length=s.size:=by rw[<-hL];rfl
 rw[hL] at hmv
 obtain ⟨X,hX⟩:∃X,Q44 bad p (Q4e sub (decide (d<16)) L most p)=X:=⟨_,rfl⟩
 rw[hL,hX]
 have hR:=h.lt
 have hal:Below w.heap.size w (w.alloc (.cells #[.slice none 0 0,.slice none 0 0] 130)):=(Below.refl _ _).alloc (Nat.le_refl _) _
 have hst:Q9t R w (w.alloc (.cells #[.slice none 0 0,.slice none 0 0] 130)) none 0 0 none 0 [] []:=
  ⟨Q0n.of_below hal _,by rw[cell_of_row _ _ _ _ _ _ (heap_alloc_new _ _)];rfl,by rw[cell_of_row _ _ _ _ _ _ (heap_alloc_new _ _)];rfl,frozen_of_row _ _ _ _ _ (heap_alloc_new _ _),frozen_of_row _ _ _ _ _ (heap_alloc_new _ _),Row.nil_ _ _ _ _,Row.nil_ _ _ _ _,trivial,rfl⟩
 have hsg:=Q30 (h.step hal) hp (by omega)
 obtain ⟨q,hq⟩:∃q,skS L p bad=q:=⟨_,rfl⟩
 obtain ⟨c,hc⟩:∃c,nxB L q bad=c:=⟨_,rfl⟩
 have hqs:q<=s.size:=by
  rw[<-hq];unfold skS
  split
  ·exact hp
  ·rw[<-hLs];exact Q2r (by omega)
 rw[hL,hq,hc] at hsg
 have hw1:IntKind.i64.wrap ((q:Int)+1)=(q:Int)+1:=by rw[IntKind.wrap_i64];omega
 have H:=Xh7 hL hLs hs hX hR hst hsg
 have HS:=Xh5 hd0 hd hT hsub hmv
 have HP:=Xh4 hp hqs hq hc
 clear h hp hs hT hsub hmv hL hLs hd0 hd hX hR hst hal hsg hqs hq hc
 go_enter Tryz.func80,Tryz.ntmps80
 go_wp2_with fail
 go_step3
 go_upto_if 8 with (go_at_call_of 81 (Value.pointer (some ⟨R,0,none⟩));refine (Xe6 H).mono ?_;rintro r w1 ⟨rfl,hr1,ht1⟩;have k1:=hr1.c1;have g1:=hr1.f1;have H1:=Xh2 hr1 ht1;clear hr1 ht1)
 go_cut [4] (fun bv wx=>Quk R s L sub (decide (d<16)) most d w X bv wx)
 case first=>
  have hXe:=(Xo3 H)
  have hst1:=(Xo5 H).step (Xo4 H) (Xe1 H1)
  by_cases h45:c=45
  ·subst h45
   obtain ⟨rfl,hql,hqb⟩:=Qub (s:=L) (p:=q) (bad:=bad) (by rw[(Xe3 HP)];decide)
   have hXn:X=Q44 false (q+1) (Q7v sub (decide (d<16)) L most (s.size+1) (q+1) true []):=by
    rw[<-hXe]
    show Q4e sub (decide (d<16)) L most p=Q7v sub (decide (d<16)) L most (s.size+1) (q+1) true []
    unfold Q4e
    have hqq:Q07 L p=q:=by have:=(Xo2 HP);simpa[skS] using this
    rw[hqq,<-hqb,(Xe3 HP),if_pos rfl,(Xo1 H)]
   have n45:((((45:UInt8).toNat:Nat):Int)==45)=true:=by decide
   have hq1:q+1<=s.size:=by have:=(Xo1 H);omega
   have H2:=Xh3 hXn hst1 hq1
   clear hXn hXe hst1 hql hqb hq1
   go_wp2_with fail
   go_meet
   exact ⟨true,q+1,false,rfl,(Xo1 H2).step (Xo4 H) (Q1s w1 R 1 (.int .i64 ((q:Int)+1))),(Xo0 H1).setAt ((q:Int)+1),(Xe2 H2),(Xo0 H2)⟩
  ·have n45:((c.toNat:Int)==45)=false:=Qb9 (k:=45) (by decide) h45
   have hXn:X=Q44 bad q (Q7v sub (decide (d<16)) L most (s.size+1) q false []):=by
    rw[<-hXe]
    cases bad with
    |true=>
     have hqq:p=q:=by have:=(Xo2 HP);simpa[skS] using this
     rw[hqq];rfl
    |false=>
     show Q4e sub (decide (d<16)) L most p=Q7v sub (decide (d<16)) L most (s.size+1) q false []
     unfold Q4e
     have hqq:Q07 L p=q:=by have:=(Xo2 HP);simpa[skS] using this
     have hcc:Q09 L q=c:=by have:=(Xe3 HP);simpa[nxB] using this
     rw[hqq,hcc,if_neg h45,(Xo1 H)]
   have H2:=Xh3 hXn hst1 (Xo1 HP)
   clear hXn hXe hst1 h45
   go_wp2_with fail
   go_meet
   exact ⟨false,q,bad,congrArg Value.bool n45,(Xo1 H2),(Xo0 H1),(Xe2 H2),(Xo0 H2)⟩
 case rest=>
  have HC:=Lib.hid hcut
  obtain ⟨below,p1,bd1,rfl,_⟩:=hcut
  go_wp2_with fail
  go_step3
  go_wp2_with fail
  go_loopw [4] (fun bv wr=>∃(f p':Nat) (below:Bool) (bd:Bool) (a:Option Addr) (n c:Nat) (a2:Option Addr) (c2:Nat) (acc:List (Bool × Ex)) (vs:List Value),bv=.bool below/\Q9t R w wr a n c a2 c2 acc vs/\Q0p wr R s (p':Int) (most:Int) d bd/\p'<=s.size/\s.size+1<=f+p'/\n<=p'/\X=Q44 bd p' (Q7v sub (decide (d<16)) L most f p' below acc)) (fun _ wr=>s.size-atOf wr R)
  case atStart=>
   obtain ⟨below',p1',bd1',e,h1,h2,h3,h4⟩:=HC.out
   exact ⟨s.size+1,p1',below',bd1',none,0,0,none,0,[],[],e,h1,h2,h3,by omega,Nat.zero_le _,h4⟩
  case round=>
   clear HC
   obtain ⟨f,p',below,bd,a,n,c,a2,c2,acc,vs,rfl,hst,hr,hp',hf,hn,hXX⟩:=hrel
   obtain ⟨f,rfl⟩:∃f',f=f'+1:=⟨f-1,by omega⟩
   rw[Qpw] at hXX
   have hta:=fun (W:World) (hW:Q0p W R s (p':Int) (most:Int) d bd) (hTW:Q0n (OnR R) w W)=>Qs7 sub hW hp' (Xo2 H) (Xo0 HS) (Xo1 HS) (fun W' hW'=>(Xo2 HS) W' (hTW.trans0 hW')) (by rw[(Xo0 H)];exact (Xe4 HS)) (Xo3 HS)
   rw[(Xo0 H)] at hta
   obtain ⟨r0,hr0⟩:∃r0,Q44 bd p' (Q38 sub (decide (d<16)) L most (s.size+1) p' [])=r0:=⟨_,rfl⟩
   rw[hr0] at hta
   rw[(Xo1 H),hr0] at hXX
   have hgo:∀x q0,r0=.ok (x,q0)->p'<q0:=fun x q0 e=>by
    rw[e] at hr0
    cases bd with
    |true=>cases hr0
    |false=>
     have hm:=Q8s (most:=most) (Xe4 HS) (s.size+1) (p:=p') [] (by have:=(Xo1 H);omega)
     have hr1:Q38 sub (decide (d<16)) L most (s.size+1) p' []=.ok (x,q0):=hr0
     rw[hr1] at hm
     exact hm.1
   have HG:=Lib.hid hgo
   have hsz:s.size<=1000000:=(Xo2 H)
   have hn1:n+1<=1000001:=by omega
   have HF:=Xh7 hta hst hr hp' hf hn hXX
   clear hta hst hr hp' hf hXX hr0 hn hsz hgo
   go_upto_region 5 with fail
   go_cut [] (fun wx=>Qtd R s (most:Int) d w n below acc vs r0 wx)
   case first=>
    refine Q3h (by kernel_rfl) (fun D V W=>∃N,EI R s (most:Int) d w wr a n c a2 c2 below acc vs p' bd r0 N D V W) ?_ (by kernel_rfl) ?_ ?_ ?_
    ·rintro i o hi hd D V v W ⟨N,h⟩
     exact ⟨N,EI.drop (Qe1 (x:=12) (y:=14) (by kernel_rfl) hi hd) h⟩
    ·intro V
     exact ⟨0,(Xo1 HF).start (Xo4 H) (Xo2 HF) V⟩
    ·skip
     refine ⟨fun A W D hI hag hk hdep hcl=>?_,?_⟩
     ·obtain ⟨N,h⟩:=hI
      have e3:A.tmps[3]?.getD undef=.pointer (some ⟨w.heap.size,0,none⟩):=Q03 (hag.keep (t:=3) (by kernel_rfl) rfl)
      exact Q3j (u:=.pointer (some ⟨w.heap.size,0,none⟩)) rfl (by simp[go_sem,e3]) ⟨N,h.s0⟩
     refine ⟨fun A W D hI hag hk hdep hcl=>?_,?_⟩
     ·obtain ⟨N,h⟩:=hI
      have e16:=Q3i (j:=0) (t:=16) rfl (h.v0 (hdep 0 (by decide)))
      have d12:D 12=false:=Q31 hcl (j:=12) rfl (k:=1) (by decide) hk
      have k0:=h.c0 d12
      exact Q3j (u:=.slice a n c) rfl (by simp[go_sem,e16,k0]) ⟨N,h.s1⟩
     refine ⟨fun A W D hI hag hk hdep hcl=>?_,?_⟩
     ·obtain ⟨N,h⟩:=hI
      have e0:A.tmps[0]?.getD undef=.pointer (some ⟨R,0,none⟩):=Q03 (hag.keep (t:=0) (by kernel_rfl) rfl)
      exact Q3j (u:=.pointer (some ⟨R,0,none⟩)) rfl (by simp[go_sem,e0]) ⟨N,h.s2⟩
     refine ⟨fun A W D hI hag hk hdep hcl=>?_,?_⟩
     ·obtain ⟨N,h⟩:=hI
      have e18:=Q3i (j:=2) (t:=18) rfl (h.v2 (hdep 2 (by decide)))
      have d4:D 4=false:=Q31 hcl (j:=4) rfl (k:=3) (by decide) hk
      have d5:D 5=false:=Q31 hcl (j:=5) rfl (k:=3) (by decide) hk
      have d10:D 10=false:=Q31 hcl (j:=10) rfl (k:=5) (by decide) d5
      have d12:D 12=false:=Q31 hcl (j:=12) rfl (k:=3) (by decide) hk
      have d14:D 14=false:=Q31 hcl (j:=14) rfl (k:=3) (by decide) hk
      refine Qmc (f:=133) (args:= #[.pointer (some ⟨R,0,none⟩)]) rfl (by simp[go_sem,e18]) ?_
      refine ((Xo0 HF) W (h.rd hk) h.turn).mono ?_
      rintro e w3 ⟨t,u,rfl,hN0⟩
      exact ⟨_,rfl,_,h.s3 d4 d5 d10 d12 d14 ⟨t,u,rfl,hN0⟩⟩
     refine ⟨fun A W D hI hag hk hdep hcl=>?_,?_⟩
     ·obtain ⟨N,h⟩:=hI
      obtain ⟨_,t,u,hV3,_⟩:=h.nd (hdep 3 (by decide))
      have e19:=Q3i (j:=3) (t:=19) rfl hV3
      have s4:=h.s4
      rw[hV3] at s4
      exact Q3j (u:=.slice (some ⟨W.heap.size,0,none⟩) 1 1) (w':=W.alloc (.cells #[.iface t u] 82)) rfl (by simp[go_sem,e19]) ⟨N,s4⟩
     refine ⟨fun A W D hI hag hk hdep hcl=>?_,?_⟩
     ·obtain ⟨N,h⟩:=hI
      obtain ⟨_,t,u,hV3,_⟩:=h.nd (hdep 3 (by decide))
      obtain ⟨b4,hV4,_,hb4⟩:=h.v4 (hdep 4 (by decide))
      rw[hV3] at hb4
      have d10:D 10=false:=Q31 hcl (j:=10) rfl (k:=5) (by decide) hk
      have d12:D 12=false:=Q31 hcl (j:=12) rfl (k:=5) (by decide) hk
      have d14:D 14=false:=Q31 hcl (j:=14) rfl (k:=5) (by decide) hk
      refine Q9i rfl (.tmp 17) (.tmp 20) 127 rfl (w.heap.size+1) 82 i0 .nilIface 16 Tryz.underlying127 hi0 hz0 hz1 hz2 rfl (.slice a n c) n vs (Qe3 (j:=1) rfl (h.v1 (hdep 1 (by decide)))) (h.ra hk) b4 (.iface t u) (Qe3 (j:=4) rfl hV4) hb4 rfl (by unfold maxLen;omega) (by omega) (by have:=h.st.2.1;have:=h.big;omega) ?_
      intro g cap w' hrow hgr hat
      rw[<-hV3] at hrow
      exact ⟨N,h.s5 (hdep 3 (by decide)) hk d10 d12 d14 hrow hgr hat rfl⟩
     refine ⟨fun A W D hI hag hk hdep hcl=>?_,?_⟩
     ·obtain ⟨N,h⟩:=hI
      have e3:A.tmps[3]?.getD undef=.pointer (some ⟨w.heap.size,0,none⟩):=Q03 (hag.keep (t:=3) (by kernel_rfl) rfl)
      exact Q3j (u:=.pointer (some ⟨w.heap.size,1,none⟩)) rfl (by simp[go_sem,e3]) ⟨N,h.s6⟩
     refine ⟨fun A W D hI hag hk hdep hcl=>?_,?_⟩
     ·obtain ⟨N,h⟩:=hI
      have e22:=Q3i (j:=6) (t:=22) rfl (h.v6 (hdep 6 (by decide)))
      have d14:D 14=false:=Q31 hcl (j:=14) rfl (k:=7) (by decide) hk
      have k1:=h.c1 d14
      exact Q3j (u:=.slice a2 n c2) rfl (by simp[go_sem,e22,k1]) ⟨N,h.s7⟩
     refine ⟨fun A W D hI hag hk hdep hcl=>?_,?_⟩
     ·obtain ⟨N,h⟩:=hI
      have e4:A.tmps[4]?.getD undef=.bool below:=Q03 (hag.keep (t:=4) (by kernel_rfl) rfl)
      exact Q3j (u:=.bool below) rfl (by simp[go_sem,e4]) ⟨N,h.s8⟩
     refine ⟨fun A W D hI hag hk hdep hcl=>?_,?_⟩
     ·obtain ⟨N,h⟩:=hI
      have e24:=Q3i (j:=8) (t:=24) rfl (h.v8 (hdep 8 (by decide)))
      exact Q3j (u:=.slice (some ⟨W.heap.size,0,none⟩) 1 1) (w':=W.alloc (.cells #[.bool below] 4)) rfl (by simp[go_sem,e24]) ⟨N,h.s9⟩
     refine ⟨fun A W D hI hag hk hdep hcl=>?_,?_⟩
     ·obtain ⟨N,h⟩:=hI
      obtain ⟨b9,hV9,_,hb9⟩:=h.v9 (hdep 9 (by decide))
      have d5:=hdep 5 (by decide)
      have d3:=hcl 5 _ rfl d5 3 (by decide)
      have d12:D 12=false:=Q31 hcl (j:=12) rfl (k:=10) (by decide) hk
      have d14:D 14=false:=Q31 hcl (j:=14) rfl (k:=10) (by decide) hk
      refine Q9i rfl (.tmp 23) (.tmp 25) 128 rfl (w.heap.size+1) 4 i1 (.bool false) 1 Tryz.underlying128 hi1 hy0 hy1 hy2 rfl (.slice a2 n c2) n (acc.map fun (z:Bool × Ex)=>Value.bool z.1) (Qe3 (j:=7) rfl (h.v7 (hdep 7 (by decide)))) (h.rb hk) b9 (.bool below) (Qe3 (j:=9) rfl hV9) hb9 rfl (by unfold maxLen;omega) (by omega) (by have:=h.st.2.1;have:=h.big;omega) ?_
      intro g cap w' hrow hgr hat
      exact ⟨N,h.s10 d3 d5 hk d12 d14 hrow hgr hat rfl⟩
     refine ⟨fun A W D hI hag hk hdep hcl=>?_,?_⟩
     ·obtain ⟨N,h⟩:=hI
      have e3:A.tmps[3]?.getD undef=.pointer (some ⟨w.heap.size,0,none⟩):=Q03 (hag.keep (t:=3) (by kernel_rfl) rfl)
      exact Q3j (u:=.pointer (some ⟨w.heap.size,0,none⟩)) rfl (by simp[go_sem,e3]) ⟨N,h.s11⟩
     refine ⟨fun A W D hI hag hk hdep hcl=>?_,?_⟩
     ·obtain ⟨N,h⟩:=hI
      have e27:=Q3i (j:=11) (t:=27) rfl (h.v11 (hdep 11 (by decide)))
      have d10:=hdep 10 (by decide)
      have d5:=hdep 5 (by decide)
      have d3:=hdep 3 (by decide)
      obtain ⟨g,cap,hV5,_⟩:=h.ra' d5
      have e21:=Q3i (j:=5) (t:=21) rfl hV5
      have k0:=h.c0 hk
      have g0:=h.f0
      have s12:=h.s12 d3 d5 d10 hk undef
      rw[hV5] at s12
      exact Qcy rfl (by simp[go_sem,e27,e21,k0,g0]) ⟨N,s12⟩
     refine ⟨fun A W D hI hag hk hdep hcl=>?_,?_⟩
     ·obtain ⟨N,h⟩:=hI
      have e3:A.tmps[3]?.getD undef=.pointer (some ⟨w.heap.size,0,none⟩):=Q03 (hag.keep (t:=3) (by kernel_rfl) rfl)
      exact Q3j (u:=.pointer (some ⟨w.heap.size,1,none⟩)) rfl (by simp[go_sem,e3]) ⟨N,h.s13⟩
     refine ⟨fun A W D hI hag hk hdep hcl=>?_,?_⟩
     ·obtain ⟨N,h⟩:=hI
      have e28:=Q3i (j:=13) (t:=28) rfl (h.v13 (hdep 13 (by decide)))
      have d10:=hdep 10 (by decide)
      have d5:=hdep 5 (by decide)
      have d3:=hdep 3 (by decide)
      obtain ⟨g,cap,hV10,_⟩:=h.rb' d10
      have e26:=Q3i (j:=10) (t:=26) rfl hV10
      have k0:=h.c1 hk
      have g0:=h.f1
      have s14:=h.s14 d3 d5 d10 hk undef
      rw[hV10] at s14
      exact Qcy rfl (by simp[go_sem,e28,e26,k0,g0]) ⟨N,s14⟩
     exact trivial
    ·rintro D V W hD ⟨N,h⟩
     have hfin:=h.fin (Xo1 HF).len hD
     have HX:=Lib.hid hfin
     clear hfin h hD
     simp only[Q10,Act.put,List.setIfInBounds_toArray,List.set_cons_zero,List.set_cons_succ]
     go_wp2_with fail
     go_meet
     exact HX.out
   case rest=>
    obtain ⟨g,cap,g2,cap2,v,hk,hk2,htw,h2⟩:=hcut
    have HK:=Xh2 htw h2
    have hX:=(Xe6 HF)
    clear htw h2
    cases r0 with
    |error e=>
     have h1:=(Xe1 HK)
     have hsg:=Q30 h1.1 h1.2 (by have:=(Xo2 H);omega)
     simp only[skS,nxB,if_true] at hsg
     have H2:=Xh3 hsg h1.2 hX
     clear hsg h1 hX
     have n43:((((0:UInt8).toNat:Nat):Int)==43)=false:=by decide
     have n45:((((0:UInt8).toNat:Nat):Int)==45)=false:=by decide
     go_wp2_with (go_at_call_of 81 (Value.pointer (some ⟨R,0,none⟩));refine (Xo0 H2).mono ?_;rintro r w2 ⟨rfl,hr2,ht2⟩;have k2:=(ht2.cell (p:=⟨w.heap.size,0,none⟩) (block_lt_of_cell hk) (fun (e:w.heap.size=R)=>by have:=(Xo4 H);omega)).trans hk;have k3:=(ht2.cell (p:=⟨w.heap.size,1,none⟩) (block_lt_of_cell hk2) (fun (e:w.heap.size=R)=>by have:=(Xo4 H);omega)).trans hk2;have H3:=Xh2 hr2 ht2;clear hr2 ht2)
     first|rw[Exit.noGoto_ret]|skip
     go_ret
     rw[(Xe2 H2)]
     exact Q5u.err ((Xo0 HK).trans0 (Xe1 H3)) (Xo0 H3) (Xo1 H2)
    |ok z=>
     obtain ⟨x,q0⟩:=z
     have h1:=(Xe1 HK)
     obtain ⟨q,hq⟩:∃q,Q07 L q0=q:=⟨_,rfl⟩
     have hqs:q<=s.size:=by rw[<-hq,<-(Xo1 H)];exact Q2r (by have:=(Xo1 H);have:=h1.2.2;omega)
     obtain ⟨c,hc⟩:∃c,Q09 L q=c:=⟨_,rfl⟩
     have hXX:X=if c=43 then Q7v sub (decide (d<16)) L most f (q+1) false (acc++[(below,x)]) else if c=45 then Q7v sub (decide (d<16)) L most f (q+1) true (acc++[(below,x)]) else .ok (.sum (acc++[(below,x)]),q):=by
      rw[hX]
      simp only[hq,hc]
     have hsg:=Q30 h1.2.1 h1.2.2 (by have:=(Xo2 H);omega)
     rw[(Xo0 H)] at hsg
     simp only[skS,nxB,Bool.false_eq_true,if_false,hq,hc] at hsg
     have hq0:p'<q:=by have:=HG.out x q0 rfl;have:=Q5a L q0;omega
     have hw1:IntKind.i64.wrap ((q:Int)+1)=(q:Int)+1:=by rw[IntKind.wrap_i64];have:=(Xo2 H);omega
     by_cases h43:c=43
     ·subst h43
      have hq1:q+1<=s.size:=by have:=Q0i hc (by decide);have:=(Xo1 H);omega
      rw[if_pos rfl] at hXX
      have n43:((((43:UInt8).toNat:Nat):Int)==43)=true:=by decide
      have H2:=Xh5 hsg h1.1 hXX hq1 hq0
      clear hsg h1 hXX hX hq1 hq0 hq hc hqs
      go_wp2_with (go_at_call_of 81 (Value.pointer (some ⟨R,0,none⟩));refine (Xo0 H2).mono ?_;rintro r w2 ⟨rfl,hr2,ht2⟩;have k1:=hr2.c1;have g1:=hr2.f1;have H3:=Xh2 hr2 ht2;clear hr2 ht2)
      have hr4:Q0p (w2.setCell ⟨R,1,none⟩ (.int .i64 ((q:Int)+1))) R s ((q+1:Nat):Int) (most:Int) d false:=(Xo0 H3).setAt ((q:Int)+1)
      refine ⟨⟨f,q+1,false,false,_,n+1,cap,_,cap2,acc++[(below,x)],vs++[v],rfl,((Xo1 H2).step (Xo4 H) (Xe1 H3)).step (Xo4 H) (Q1s w2 R 1 (.int .i64 ((q:Int)+1))),hr4,(Xo3 H2),?_,?_,(Xo2 H2)⟩,?_⟩
      ·have:=(Xo4 HF);have:=(Xe4 H2);omega
      ·have:=(Xo5 HF);have:=(Xe4 H2);omega
      ·rw[hr4.atOf,(Xo2 HF).atOf]
       have:=(Xo3 H2);have:=(Xe4 H2);omega
     ·by_cases h45:c=45
      ·subst h45
       have hq1:q+1<=s.size:=by have:=Q0i hc (by decide);have:=(Xo1 H);omega
       rw[if_neg (by decide),if_pos rfl] at hXX
       have n43:((((45:UInt8).toNat:Nat):Int)==43)=false:=by decide
       have n45:((((45:UInt8).toNat:Nat):Int)==45)=true:=by decide
       have H2:=Xh5 hsg h1.1 hXX hq1 hq0
       clear hsg h1 hXX hX hq1 hq0 hq hc hqs
       go_wp2_with (go_at_call_of 81 (Value.pointer (some ⟨R,0,none⟩));refine (Xo0 H2).mono ?_;rintro r w2 ⟨rfl,hr2,ht2⟩;have k1:=hr2.c1;have g1:=hr2.f1;have H3:=Xh2 hr2 ht2;clear hr2 ht2)
       have hr4:Q0p (w2.setCell ⟨R,1,none⟩ (.int .i64 ((q:Int)+1))) R s ((q+1:Nat):Int) (most:Int) d false:=(Xo0 H3).setAt ((q:Int)+1)
       refine ⟨⟨f,q+1,true,false,_,n+1,cap,_,cap2,acc++[(below,x)],vs++[v],rfl,((Xo1 H2).step (Xo4 H) (Xe1 H3)).step (Xo4 H) (Q1s w2 R 1 (.int .i64 ((q:Int)+1))),hr4,(Xo3 H2),?_,?_,(Xo2 H2)⟩,?_⟩
       ·have:=(Xo4 HF);have:=(Xe4 H2);omega
       ·have:=(Xo5 HF);have:=(Xe4 H2);omega
       ·rw[hr4.atOf,(Xo2 HF).atOf]
        have:=(Xo3 H2);have:=(Xe4 H2);omega
      ·rw[if_neg h43,if_neg h45] at hXX
       have n43:((c.toNat:Int)==43)=false:=Qb9 (k:=43) (by decide) h43
       have n45:((c.toNat:Int)==45)=false:=Qb9 (k:=45) (by decide) h45
       have H2:=Xh4 hsg h1.1 hXX hqs
       clear hsg h1 hXX hX hqs hq0 hq hc h43 h45
       go_wp2_with (go_at_call_of 81 (Value.pointer (some ⟨R,0,none⟩));refine (Xo0 H2).mono ?_;rintro r w2 ⟨rfl,hr2,ht2⟩;have k2:=(ht2.cell (p:=⟨w.heap.size,0,none⟩) (block_lt_of_cell hk) (fun (e:w.heap.size=R)=>by have:=(Xo4 H);omega)).trans hk;have k3:=(ht2.cell (p:=⟨w.heap.size,1,none⟩) (block_lt_of_cell hk2) (fun (e:w.heap.size=R)=>by have:=(Xo4 H);omega)).trans hk2;have H3:=Xh2 hr2 ht2;clear hr2 ht2)
       first|rw[Exit.noGoto_ret]|skip
       go_ret
       rw[(Xo2 H2)]
       have hs3:=(Xo1 H2).step (Xo4 H) (Xe1 H3)
       refine Q5u.okd ((Xo0 HK).trans0 (Xe1 H3)) ?_ (Xo0 H3) (Xe3 H2)
       exact Qvn hs3 (by simp)
theorem Q6v {R:Nat} {s:ByteArray} {most:Nat} (hs:s.size<=1000000):∀(k:Nat) (w:World) (p:Nat) (bad:Bool) (d:Int),d=16-(k:Int)->k<=16->Q0p w R s (p:Int) (most:Int) d bad->p<=s.size->(∀W,Q0n (OnR R) w W->Q24 W)->
 Calls Tryz.prog 80 #[.pointer (some ⟨R,0,none⟩)] w (Q5u R s (most:Int) d (Q44 bad p (Q3o s.data.toList most k p)) w)
 |0,w,p,bad,d,hd,_,h,hp,hT=>by
  have he:=Q6u (fun q=>.error q) h hp hs (by omega) (by omega) hT (fun hdd=>by have:=of_decide_eq_true hdd;omega) (fun hdd=>by omega)
  have hf:decide (d<16)=false:=decide_eq_false (by omega)
  rw[hf] at he
  exact he
 |k+1,w,p,bad,d,hd,hk,h,hp,hT=>by
  have he:=Q6u (Q3o s.data.toList most k) h hp hs (by omega) (by omega) hT (fun _ p hp=>Q8t s.data.toList most k p hp) (fun _ W q hW hq hTW=>Q6v hs k W q false (d+1) (by omega) (by omega) hW hq hTW)
  have hf:decide (d<16)=true:=decide_eq_true (by omega)
  rw[hf] at he
  exact he
end Go.Proofs.YtdilmfakkppgpaaGreatDoor
