/- Part 36 of the proof of LawParseMeans: MeansW. Condition: as each theorem says; none at the end. -/
import Derived.Test.YtdilmfakkppgpaaGreatDoorPkParseMeans35
set_option maxRecDepth 100000
set_option maxHeartbeats 16000000
namespace Go.Proofs.YtdilmfakkppgpaaGreatDoor
open Go.RowKit WordsM DecM
structure Qah (w W:World) (b:Nat) (a1:Option Addr) (n1 c1:Nat) (A:List Q05) (a2:Option Addr) (n2 c2:Nat) (B:List Q05):Prop where
 hA:Q0c W a1 n1 c1 A
 hB:Q0c W a2 n2 c2 B
 rA:Q0s 1 A
 rB:Q0s 1 B
 sA:Q54 (A.map Q05.term)
 sB:Q54 (B.map Q05.term)
 dk:∃i,Q6g W b i/\i<=1000
 bel:Below w.heap.size w W
 bb:w.heap.size<=b
theorem Qah.step {w W W':World} {b:Nat} {a1 a2:Option Addr} {n1 c1 n2 c2:Nat} {A B:List Q05} (h:Qah w W b a1 n1 c1 A a2 n2 c2 B) (hb:Below W.heap.size W W'):Qah w W' b a1 n1 c1 A a2 n2 c2 B:=by
 obtain ⟨i,h1,h2⟩:=h.dk
 exact ⟨h.hA.step hb,h.hB.step hb,h.rA,h.rB,h.sA,h.sB,⟨i,h1.call hb,h2⟩,Below.next0 h.bel hb,h.bb⟩
theorem Ql7 {W:World} {a:Option Addr} {n c:Nat} {ms:List Q05} (h:Q0c W a n c ms) (hr:Q0s 1 ms) (hl:Qr8 W):Calls Tryz.prog 12 #[.slice (some ⟨W.heap.size,0,none⟩) 1 1] (W.alloc (.cells #[.slice a n c] 25)) fun r w'=>r=.returned (.string (Qna (ms.map Q05.term)))/\Below W.heap.size W w':=by
 have hb:Below W.heap.size W (W.alloc (.cells #[.slice a n c] 25)):=(Below.refl _ _).alloc (Nat.le_refl _) _
 refine (Q88 _ 1 1 [ms] _ (Qby W h) (hl.below hb).tz (hl.below hb).pow).mono ?_
 rintro r w' ⟨h1,_,h3⟩
 exact ⟨h1 (Qbz hr),Below.next0 hb h3⟩
theorem Qca (a:Option Addr) (n c:Nat) (ls:List Nat) (w:World) (hln:ls.length=n) (hn:n<=9223372036854775807) (hrd:RdU w w.heap.size a ls) (hx:∀x∈ls,x<18446744073709551616) (hl:Qr8 w):
 Calls Tryz.prog 6 #[.slice a n c] w fun e w'=>e=.returned (.bool true)/\Below w.heap.size w w':=by
 have hk:=Qqd w hl
 have HL:=Lib.hid (fun W (hb:Below w.heap.size w W)=>hl.below hb)
 have HRD:=Xh2 hrd hx
 have HK:=Lib.hid hk
 clear hk hl hrd hx
 go_enter Tryz.func6,Tryz.ntmps6
 go_upto_region 5 with (first
  |(go_at_call_of 21 (Value.pointer (some ⟨w1.heap.size,0,none⟩))
    first
    |(refine (Q9n w1.heap.size q3 w3 (Xo4 H3) (by have:=(Xe6 H3);omega)).mono ?_
      rintro e w4 ⟨⟨a4,N4,c4,ms4,q4,rfl,hm4,hr4,hs4,hn4,hd4,hq4⟩,ht4⟩
      have hb4:Below w.heap.size w w4:=Below.turn (Xo5 H3) ht4 (Xo5 H3).size (fun k e=>by have:=H1.out.size;omega)
      have H4:=Lib.hid (Qah.mk ((Xo0 H3).turnK (Qaf (Xo1 H3)) (Xo4 H3) ht4) hm4 (Xo1 H3) hr4 (Xo2 H3) hs4 ⟨q4,hd4,by have:=(Xe6 H3);omega⟩ hb4 H1.out.size)
      clear hm4 hr4 hs4 hn4 hd4 hq4 ht4 hb4)
    |(refine (Q9n w1.heap.size 0 w2 (Xo0 H2) (by decide)).mono ?_
      rintro e w3 ⟨⟨a3,N3,c3,ms3,q3,rfl,hm3,hr3,hs3,hn3,hd3,hq3⟩,ht3⟩
      have hb3:Below w.heap.size w w3:=Below.turn (Xe1 H2) ht3 (Xe1 H2).size (fun k e=>by have:=H1.out.size;omega)
      have H3:=Xh7 hm3 hr3 hs3 hn3 hd3 hb3 hq3
      clear hm3 hr3 hs3 hn3 hd3 hq3 ht3 hb3))
  |(go_at_call 9
    refine (Qmv a n c ls w1 hln hn ((RdI.below (K:=.u64) (Xo0 HRD) H1.out).more H1.out.size) (Xe1 HRD)).mono ?_
    rintro e w2 ⟨rfl,hd2,hb2⟩
    have H2:=Xh2 hd2 (Below.next0 H1.out hb2)
    clear hd2 hb2)
  |(go_at_call 8;refine HK.out.mono ?_;rintro e w1 ⟨rfl,hb1⟩;have H1:=Lib.hid hb1;clear hb1))
 have HA:=H4
 have hsA:=Qhd H4.out.sA.1
 have hsB:=Qhd H4.out.sB.1
 have hmA:=Qhe (Qby w4 H4.out.hA) (Qbz H4.out.rA)
 have hmB:=Qhe (Qby w4 H4.out.hB) (Qbz H4.out.rB)
 have hpA:=Qhf (ms3.map Q05.term)
 have hpB:=Qhf (ms4.map Q05.term)
 have hshA:=Ql7 H4.out.hA H4.out.rA (HL.out _ H4.out.bel)
 have hshB:=fun W (hb:Below w4.heap.size w4 W)=>Ql7 (H4.out.hB.step hb) H4.out.rB (HL.out _ (Below.next0 H4.out.bel hb))
 obtain ⟨SA,hSA⟩:∃S,Qna (ms3.map Q05.term)=S:=⟨_,rfl⟩
 obtain ⟨SB,hSB⟩:∃S,Qna (ms4.map Q05.term)=S:=⟨_,rfl⟩
 rw[hSA] at hsA hmA hpA hshA
 simp only[hSB] at hsB hmB hpB hshB
 obtain ⟨tA,htA⟩:∃t,SA.size-1=t:=⟨_,rfl⟩
 obtain ⟨tB,htB⟩:∃t,SB.size-1=t:=⟨_,rfl⟩
 rw[htA] at hpA
 rw[htB] at hpB
 have hzA:(SA.size:Int)-1=(tA:Int):=by omega
 have hzB:(SB.size:Int)-1=(tB:Int):=by omega
 have h6A:6<=tA:=by omega
 have h6B:6<=tB:=by omega
 have h7A:tA<=SA.size:=by omega
 have h7B:tB<=SB.size:=by omega
 have h8A:(6:Int)<=(tA:Int):=by omega
 have h8B:(6:Int)<=(tB:Int):=by omega
 have h9A:(tA:Int)<=(SA.size:Int):=by omega
 have h9B:(tB:Int)<=(SB.size:Int):=by omega
 have HS:=Xh4 hshA hshB hpA hpB
 clear hshA hshB hpA hpB hSA hSB htA htB
 go_upto_region 8 with (go_at_call 12
                        first
                        |(refine ((Xo1 HS) w5 H5.out).mono ?_;rintro r w6 ⟨rfl,hb6⟩;have H6:=Lib.hid (Below.next0 H5.out hb6);clear hb6)
                        |(refine (Xo0 HS).mono ?_;rintro r w5 ⟨rfl,hb5⟩;have H5:=Lib.hid hb5;clear hb5))
 go_quiet (fail)
 have hb6w:Below w4.heap.size w4 (w6.drewN nq):=Below.drewN' H6.out nq
 generalize w6.drewN nq=w7 at hb6w⊢
 have hpre:=H4.out.step hb6w
 obtain ⟨u,hu⟩:∃u,SA.extract 6 tA=u:=⟨_,rfl⟩
 obtain ⟨v,hv⟩:∃v,SB.extract 6 tB=v:=⟨_,rfl⟩
 have hus:=Ql6 SA 6 tA hmA
 have hvs:=Ql6 SB 6 tB hmB
 have hul:=(Xo2 HS)
 have hvl:=(Xe3 HS)
 rw[hu] at hus hul
 rw[hv] at hvs hvl
 rw[hu,hv]
 have hpc:=Qnc hpre.sA hpre.sB (Qnb hul hvl) (Qnd hus hvs) w7 (HL.out _ hpre.bel).tz
 have H7:=Xh2 hpre hpc
 clear hu hv hul hvl hpre hpc hb6w h6A h6B h7A h7B h8A h8B h9A h9B hzA hzB hsA hsB hmA hmB
 go_upto_region 11 with (first
  |(go_at_call 22
    refine (Xe2 H8).mono ?_
    rintro e w9 ⟨⟨neg9,e9,a9,n9,c9,L9,rfl,hs9,hW9⟩,hd9,ht9⟩
    have hpost:=(Xo0 H8) _ _ _ _ _ _ _ hs9 hW9 ht9
    have H9:=Lib.hid hpost
    clear hs9 hW9 hd9 ht9 hpost)
  |(go_at_call 17
    refine (Xe1 H7).mono ?_
    rintro e w8 ⟨bF,oF,cF,msP,rfl,hbF,hF,hrP,hbP,hvP,hb8⟩
    have hpre8:=(Xo0 H7).step hb8
    obtain ⟨i8,hd8,hi8⟩:=hpre8.dk
    have h8b:w1.heap.size<bF:=Nat.lt_of_lt_of_le (by obtain ⟨i7,hd7,_⟩:=(Xo0 H7).dk;exact hd7.lt) hbF
    have hsm:=Qdc w1.heap.size i8 w8 hd8 (by omega)
    have htu:=fun W' neg e ax lx cx L (hs:Qh4 neg e L) (hw:WordsIn W' ax lx cx L) (ht:Q0n (·=w1.heap.size) w8 W')=>Qne (w:=w) hpre8.hA hpre8.hB hpre8.rA hpre8.rB hpre8.sA hpre8.sB hd8 hpre8.bel hpre8.bb hF h8b hrP hbP hvP hs hw ht
    have H8:=Xh3 htu hb8 hsm
    clear hpre8 hd8 hi8 h8b hsm htu hF hrP hbP hvP hb8 hbF))
 obtain ⟨x,hx⟩:∃x:Q9x,Q9x.mk neg9 e9 L9=x:=⟨_,rfl⟩
 obtain ⟨rfl,rfl,rfl⟩:neg9=x.neg/\e9=x.exp/\L9=x.ws:=by rw[<-hx];exact ⟨rfl,rfl,rfl⟩
 have hb10:Below w9.heap.size w9 (w9.alloc (.cells #[.bool x.neg,.int .i64 x.exp,.slice a9 n9 c9] 41)):=(Below.refl _ _).alloc (Nat.le_refl _) _
 have hN13:=Q04.new w9 (.bool x.neg) (.int .i64 x.exp) (.slice a9 n9 c9) 41
 have hl13:=Q0f w9 (.cells #[.bool x.neg,.int .i64 x.exp,.slice a9 n9 c9] 41)
 have hpo:=H9.out.step hb10
 rw[show Q9x.mk x.neg x.exp x.ws=x from rfl] at hpo
 clear hx
 have HP:=Xh3 hpo hN13 hl13
 clear hb10 hN13 hpo hl13
 go_upto_region 13 with fail
 obtain ⟨W10,hW10⟩:∃W,w9.alloc (.cells #[.bool x.neg,.int .i64 x.exp,.slice a9 n9 c9] 41)=W:=⟨_,rfl⟩
 obtain ⟨hpo,hN13,hl13⟩:=HP.out
 rw[hW10] at hpo hN13 hl13⊢
 obtain ⟨g13,hg13⟩:∃g,w9.heap.size=g:=⟨_,rfl⟩
 rw[hg13] at hN13 hl13⊢
 clear HP hW10 hg13
 obtain ⟨p,l,d,hfc,hfb,hfm⟩:=hpo.fld
 obtain ⟨DP,hDP⟩:∃D,Q21 [x.val] (msP.map Q05.term)=D:=⟨_,rfl⟩
 have hfit:Q63 DP:=by
  rw[<-hDP]
  refine Qad (Qjh hpo.bx (T:=100) fun q hq=>⟨hpo.bP q hq,?_⟩) ?_
  ·obtain ⟨y,hy,rfl⟩:=List.mem_map.1 hq
   exact (hpo.rP.2.2.2.1 y hy).1.1
  ·have:=hpo.rP.2.2.1
   rw[List.length_map];omega
 have hat:=fun W (hb:Below W10.heap.size W10 W) (g:Nat) (hn:Q70 W (some ⟨g,0,none⟩) 1 1 [x])=>Qqy (x:=x) (hfm.step hb) hpo.rP hn hpo.okx (HL.out _ (Below.next0 hpo.bel hb)).tz (by rw[hDP];exact hfit)
 rw[hDP] at hat
 refine Q8g (by kernel_rfl) (fun k=>k != 4 && k != 5 && k != 9 && k != 10) (Qji W10.heap.size) Q61 (fun W=>Below W10.heap.size W10 W) Qv4 (Q6k [.slice (some ⟨bF,oF,none⟩) 1 cF,.pointer (some ⟨bF,oF,none⟩),.slice p l d,.agg #[.bool x.neg,.int .i64 x.exp,.slice a9 n9 c9],undef,undef,undef,undef,.int .i64 0,undef,undef,.int .i64 0] (Q5o [(4,fun _ _=>True),(5,Qwf DP),(6,Qwf DP),(7,Qwq DP),(9,fun _ _=>True),(10,fun _ _=>True)])) (Q0q (Q7j (E:=Qji W10.heap.size) (fun q hq v w w' h hs=>?_))) (Qwc W10.heap.size x DP) ?_ ?_ (by kernel_rfl) (by kernel_rfl) (Q08 W10) ?_ ?_ ?_
 ·simp only[List.mem_cons,List.not_mem_nil,or_false] at hq
  rcases hq with rfl|rfl|rfl|rfl|rfl|rfl
  ·trivial
  ·exact Qhi v w w' h hs
  ·exact Qhi v w w' h hs
  ·exact Qr3 v w w' h hs
  ·trivial
  ·trivial
 ·intro D vs w w' k u hp hk h hb
  have h':=Q8h h hb
  simp only[Bool.and_eq_true,bne_iff_ne] at hp
  obtain ⟨⟨⟨h4,h5⟩,h9⟩,h10⟩:=hp
  unfold Qwc
  rw[Q0w (Ne.symm h4),Q0w (Ne.symm h5),Q0w (Ne.symm h9),Q0w (Ne.symm h10),Q1a (Ne.symm h4),Q1a (Ne.symm h9)]
  exact h'
 ·intro i o hi hd
  have hi10:i=10:=by
   rcases Qe1 (x:=10) (y:=10) (by kernel_rfl) hi hd with h|h <;> exact h
  subst hi10
  refine ⟨fun v u w _=>(Q06 rfl).2 trivial,fun D vs v w h=>?_⟩
  unfold Qwc at h
  rw[Q1a (by decide),Q1a (by decide)] at h
  exact h
 ·intro vs
  exact ⟨fun h=>(by cases h),fun h=>(by cases h)⟩
 ·skip
  refine ⟨.inl ⟨rfl,fun A W hW hag hdep=>?_⟩,?_⟩
  ·have e10:A.tmps[10]?.getD undef=.slice (some ⟨bF,oF,none⟩) 1 cF:=Q03 (hag.keep (t:=10) (by kernel_rfl) rfl)
   refine Q01 rfl ?_
   refine Q02 (u:=.slice (some ⟨bF,oF,none⟩) 1 cF) ?_ ((Q00 rfl).2 rfl)
   simp[go_sem,e10]
  refine ⟨.inl ⟨rfl,fun A W hW hag hdep=>?_⟩,?_⟩
  ·have e82:A.tmps[82]?.getD undef=.slice (some ⟨bF,oF,none⟩) 1 cF:=Q03 ((Q00 rfl).1 (hdep 0 (by decide)))
   refine Q01 rfl ?_
   refine Q02 (u:=.pointer (some ⟨bF,oF,none⟩)) ?_ ((Q00 rfl).2 rfl)
   simp[go_sem,e82]
  refine ⟨.inl ⟨rfl,fun A W hW hag hdep=>?_⟩,?_⟩
  ·have e83:A.tmps[83]?.getD undef=.pointer (some ⟨bF,oF,none⟩):=Q03 ((Q00 rfl).1 (hdep 1 (by decide)))
   have k0:=(hW.cell (p:=⟨bF,oF,none⟩) hfb).trans hfc
   refine Q01 rfl ?_
   refine Q02 (u:=.slice p l d) ?_ ((Q00 rfl).2 rfl)
   simp[go_sem,e83,k0]
  refine ⟨.inl ⟨rfl,fun A W hW hag hdep=>?_⟩,?_⟩
  ·have e13:A.tmps[13]?.getD undef=.pointer (some ⟨g13,0,none⟩):=Q03 (hag.keep (t:=13) (by kernel_rfl) rfl)
   have hN:=hN13.step hW hl13
   refine Q01 rfl ?_
   refine Q02 (u:=.agg #[.bool x.neg,.int .i64 x.exp,.slice a9 n9 c9]) ?_ ((Q00 rfl).2 rfl)
   simp[go_sem,e13,hN.c0,hN.c1,hN.c2]
  refine ⟨.inr fun A W D hW hV hB hag hk hdep hcl=>?_,?_⟩
  ·have e85:A.eval (.tmp 85)=.agg #[.bool x.neg,.int .i64 x.exp,.slice a9 n9 c9]:=(Q00 rfl).1 (hV 3 (hdep 3 (by decide)))
   have hbW:Below W.heap.size W (W.alloc (.cells #[.bool x.neg,.int .i64 x.exp,.slice a9 n9 c9] 41)):=(Below.refl _ _).alloc (Nat.le_refl _) _
   refine Qag (Q6s 53 1 #[(0,.tmp 85)] rfl (by simp[e85]) (Qnh W (.bool x.neg) (.int .i64 x.exp) (.slice a9 n9 c9))) ⟨Q61 _ _ hbW,(Q06 rfl).2 trivial,?_⟩
   have h':=Q8h hB hbW
   refine ⟨fun _ _=>⟨W.heap.size,Q5t _ _ _,Ql5 W (hpo.wx.step hW)⟩,?_⟩
   rw[Q0w (by decide),Q0w (by decide),Q1a (by decide)]
   exact h'.2
  refine ⟨.inr fun A W D hW hV hB hag hk hdep hcl=>?_,?_⟩
  ·have e84:A.tmps[84]?.getD undef=.slice p l d:=Q03 ((Q00 rfl).1 (hV 2 (hdep 2 (by decide))))
   obtain ⟨g,hg,hn⟩:=hB.1 (hdep 4 (by decide)) hk
   have e86:A.tmps[86]?.getD undef=.slice (some ⟨g,0,none⟩) 1 1:=Q03 hg
   refine Qjl (f:=23) (args:= #[.slice p l d,.slice (some ⟨g,0,none⟩) 1 1]) (w:=W) (by simp[go_sem,e84,e86]) ((hat W hW g hn).mono ?_)
   rintro r w3 ⟨n3,e3,a3',l3,c3',L3,rfl,hD3,hi3,hw3,hb3⟩
   refine ⟨_,rfl,Q61 _ _ hb3,(Q06 rfl).2 ⟨n3,e3,a3',l3,c3',L3,rfl,hw3,hD3,hi3⟩,?_⟩
   have h':=Q8h hB hb3
   refine ⟨fun _ h=>?_,?_⟩
   ·rw[Q43] at h;cases h
   ·rw[Q0w (by decide),Q0w (by decide),Q1a (by decide)]
    exact h'.2
  refine ⟨.inl ⟨rfl,fun A W hW hag hdep=>?_⟩,?_⟩
  ·obtain ⟨n3,e3,a3',l3,c3',L3,hv3,hw3,hD3,hi3⟩:=(Q06 rfl).1 (hdep 5 (by decide))
   have e87:A.tmps[87]?.getD undef=.tuple #[.agg #[.bool n3,.int .i64 e3,.slice a3' l3 c3'],.int .i64 0]:=Q03 hv3
   refine Q01 rfl ?_
   refine Q02 (u:=.tuple #[.agg #[.bool n3,.int .i64 e3,.slice a3' l3 c3'],.int .i64 0]) ?_ ((Q06 rfl).2 ⟨n3,e3,a3',l3,c3',L3,rfl,hw3,hD3,hi3⟩)
   simp[go_sem,e87]
  refine ⟨.inl ⟨rfl,fun A W hW hag hdep=>?_⟩,?_⟩
  ·obtain ⟨n3,e3,a3',l3,c3',L3,hv3,hw3,hD3,hi3⟩:=(Q06 rfl).1 (hdep 6 (by decide))
   have e81:A.tmps[81]?.getD undef=.tuple #[.agg #[.bool n3,.int .i64 e3,.slice a3' l3 c3'],.int .i64 0]:=Q03 hv3
   refine Q01 rfl ?_
   refine Q02 (u:=.agg #[.bool n3,.int .i64 e3,.slice a3' l3 c3']) ?_ ((Q06 rfl).2 ⟨n3,e3,a3',l3,c3',L3,rfl,hw3,hD3,hi3⟩)
   simp[go_sem,e81]
  refine ⟨.inl ⟨rfl,fun A W hW hag hdep=>?_⟩,?_⟩
  ·obtain ⟨n3,e3,a3',l3,c3',L3,hv3,hw3,hD3,hi3⟩:=(Q06 rfl).1 (hdep 6 (by decide))
   have e81:A.tmps[81]?.getD undef=.tuple #[.agg #[.bool n3,.int .i64 e3,.slice a3' l3 c3'],.int .i64 0]:=Q03 hv3
   refine Q01 rfl ?_
   refine Q02 (u:=.int .i64 0) ?_ ((Q00 rfl).2 rfl)
   simp[go_sem,e81]
  refine ⟨.inr fun A W D hW hV hB hag hk hdep hcl=>?_,?_⟩
  ·have hbW:Below W.heap.size W (W.alloc (.cells #[.bool false,.int .i64 0,.slice none 0 0] 41)):=(Below.refl _ _).alloc (Nat.le_refl _) _
   have d10:D 10=false:=Q31 hcl (j:=10) rfl (k:=9) (by decide) hk
   have h':=Q8h hB hbW
   refine Qag (Qc9 (by rfl) W) ⟨Q61 _ _ hbW,(Q06 rfl).2 trivial,?_,fun _=>⟨W.heap.size,Q5t _ _ _,hW.size,Q0f _ _,fun _=>Q04.new W _ _ _ _,fun h=>?_⟩⟩
   ·rw[Q0w (by decide),Q0w (by decide),Q1a (by decide)]
    exact h'.1
   ·rw[Q0w (by decide),d10] at h;cases h
  refine ⟨.inr fun A W D hW hV hB hag hk hdep hcl=>?_,?_⟩
  ·obtain ⟨g,hg,hgB,hgl,hgz,_⟩:=hB.2 (hdep 9 (by decide))
   obtain ⟨n3,e3,a3',l3,c3',L3,hv3,hw3,hD3,hi3⟩:=(Q06 rfl).1 (hV 7 (hdep 7 (by decide)))
   have e14:A.tmps[14]?.getD undef=.pointer (some ⟨g,0,none⟩):=Q03 hg
   have e88:A.tmps[88]?.getD undef=.agg #[.bool n3,.int .i64 e3,.slice a3' l3 c3']:=Q03 hv3
   have hz:Q04 W g (.bool false) (.int .i64 0) (.slice none 0 0):=hgz hk
   have d5:D 5=true:=hcl 6 _ rfl (hcl 7 _ rfl (hdep 7 (by decide)) 6 (by decide)) 5 (by decide)
   obtain ⟨f1,f2,f3⟩:=Qt3 (NB:=W10.heap.size) hz hgl hgB hw3 hD3 hi3
   have k0:=hz.c0
   have q0:=hz.f0
   have q1:=hz.f1
   have q2:=hz.f2
   have d1:=hz.d1 (.bool n3)
   have d2:=hz.d2 (.bool n3) (.int .i64 e3)
   refine Qc3 (w':=((W.setCell ⟨g,0,none⟩ (.bool n3)).setCell ⟨g,1,none⟩ (.int .i64 e3)).setCell ⟨g,2,none⟩ (.slice a3' l3 c3')) (by simp[go_sem,e14,e88,k0,q0,q1,q2,d1,d2]) ⟨f1,(Q06 rfl).2 trivial,fun _ h=>?_,fun _=>⟨g,?_,hgB,f3,fun h=>?_,fun _=>f2⟩⟩
   ·rw[Q0w (by decide),d5] at h;cases h
   ·rw[Q1a (by decide)];exact hg
   ·rw[Q43] at h;cases h
  refine ⟨.inl ⟨rfl,fun A W hW hag hdep=>?_⟩,?_⟩
  ·have e89:A.tmps[89]?.getD undef=.int .i64 0:=Q03 ((Q00 rfl).1 (hdep 8 (by decide)))
   refine Q01 rfl ?_
   refine Q02 (u:=.int .i64 0) ?_ ((Q00 rfl).2 rfl)
   simp[go_sem,e89]
  exact trivial
 intro D vs W11 hall hc11 hv11 hB11
 obtain ⟨g14,hg14,hgB,hgl14,_,hF14⟩:=hB11.2 (hall 9 (by decide))
 have hN14:=hF14 (hall 10 (by decide))
 have h11:vs 11=.int .i64 0:=(Q00 rfl).1 (hv11 11 (hall 11 (by decide)))
 simp only[Q10,Act.put,List.setIfInBounds_toArray,List.set_cons_zero,List.set_cons_succ]
 rw[hg14,h11]
 have hpo1:=hpo.step hc11
 have hN1:=hN13.step hc11 hl13
 have hl1:=Nat.lt_of_lt_of_le hl13 hc11.size
 have hatA:=Qr5 hpo1.hA hpo1.rA hpo1.sA hpo1.wx hpo1.okx hpo1.bx (HL.out _ hpo1.bel).tz
 have x0:=hN1.c0
 have x1:=hN1.c1
 have x2:=hN1.c2
 have HQ:=Xh6 hpo1 hN1 hl1 hN14 hgl14 hatA
 have HVP:=Xh2 hDP hpo.vP
 clear hpo1 hN1 hl1 hN14 hgl14 hatA hpo hN13 hl13 hfc hfb hfm hfit hat hDP hB11 hv11 hc11 hall hgB hF14 hg14 h11
 go_upto_region 15 with (go_at_call 23
                         refine (Xe5 HQ).mono ?_
                         rintro r w12 ⟨n12,e12,a12,l12,c12,L12,rfl,hD12,hi12,hw12,hb12⟩
                         have H12:=Xh4 hD12 hi12 hw12 hb12
                         clear hD12 hi12 hw12 hb12)
 have hal:Below w12.heap.size w12 (w12.alloc (.cells #[.bool n12,.int .i64 e12,.slice a12 l12 c12] 41)):=(Below.refl _ _).alloc (Nat.le_refl _) _
 have hb2:=Below.next0 (Xe3 H12) hal
 have hpo2:=(Xo0 HQ).step hb2
 have hN2:=(Xo1 HQ).step hb2 (Xo2 HQ)
 have hl2:=Nat.lt_of_lt_of_le (Xo2 HQ) hb2.size
 have hP2:=Q5s _ _ _ _ (Xo3 HQ) (Xo4 HQ) hb2
 have hPl2:=Nat.lt_of_lt_of_le (Xo4 HQ) hb2.size
 have hA2:Qwb (Q21 [x.val] (ms3.map Q05.term)) (w12.alloc (.cells #[.bool n12,.int .i64 e12,.slice a12 l12 c12] 41)) w12.heap.size:=⟨_,_,_,_,_,_,Q04.new w12 _ _ _ _,(Xo2 H12).step hal,(Xo0 H12),(Xo1 H12)⟩
 have hAl2:=Q0f w12 (.cells #[.bool n12,.int .i64 e12,.slice a12 l12 c12] 41)
 obtain ⟨W12,hW12⟩:∃W,w12.alloc (.cells #[.bool n12,.int .i64 e12,.slice a12 l12 c12] 41)=W:=⟨_,rfl⟩
 rw[hW12] at hpo2 hN2 hl2 hP2 hPl2 hA2 hAl2⊢
 obtain ⟨g16,hg16⟩:∃g,w12.heap.size=g:=⟨_,rfl⟩
 rw[hg16] at hA2 hAl2⊢
 have hatB:=Qr5 hpo2.hB hpo2.rB hpo2.sB hpo2.wx hpo2.okx hpo2.bx (HL.out _ hpo2.bel).tz
 have x0':=hN2.c0
 have x1':=hN2.c1
 have x2':=hN2.c2
 have HR:=Xh6 hpo2 hP2 hPl2 hA2 hAl2 hatB
 clear hal hb2 hpo2 hN2 hl2 hP2 hPl2 hA2 hAl2 hatB hW12 hg16 x0 x1 x2
 go_upto_region 18 with (go_at_call 23
                         refine (Xe5 HR).mono ?_
                         rintro r w15 ⟨n15,e15,a15,l15,c15,L15,rfl,hD15,hi15,hw15,hb15⟩
                         have H15:=Xh4 hD15 hi15 hw15 hb15
                         clear hD15 hi15 hw15 hb15)
 have hal:Below w15.heap.size w15 (w15.alloc (.cells #[.bool n15,.int .i64 e15,.slice a15 l15 c15] 41)):=(Below.refl _ _).alloc (Nat.le_refl _) _
 have hb2:=Below.next0 (Xe3 H15) hal
 have hbw15:=((Xo0 HR).step hb2).bel
 have hP2:=Q5s _ _ _ _ (Xo1 HR) (Xo2 HR) hb2
 have hPl2:=Nat.lt_of_lt_of_le (Xo2 HR) hb2.size
 have hA2:=Q5s _ _ _ _ (Xo3 HR) (Xo4 HR) hb2
 have hAl2:=Nat.lt_of_lt_of_le (Xo4 HR) hb2.size
 have hB2:Qwb (Q21 [x.val] (ms4.map Q05.term)) (w15.alloc (.cells #[.bool n15,.int .i64 e15,.slice a15 l15 c15] 41)) w15.heap.size:=⟨_,_,_,_,_,_,Q04.new w15 _ _ _ _,(Xo2 H15).step hal,(Xo0 H15),(Xo1 H15)⟩
 have hBl2:=Q0f w15 (.cells #[.bool n15,.int .i64 e15,.slice a15 l15 c15] 41)
 have hbA:=Qc0 (Xo0 HR).sA (Xo0 HR).bx
 have hbB:=Qc0 (Xo0 HR).sB (Xo0 HR).bx
 have hvP:=(Xe1 HVP) [x.val]
 rw[(Xo0 HVP)] at hvP
 obtain ⟨W15,hW15⟩:∃W,w15.alloc (.cells #[.bool n15,.int .i64 e15,.slice a15 l15 c15] 41)=W:=⟨_,rfl⟩
 rw[hW15] at hbw15 hP2 hPl2 hA2 hAl2 hB2 hBl2⊢
 obtain ⟨g18,hg18⟩:∃g,w15.heap.size=g:=⟨_,rfl⟩
 rw[hg18] at hB2 hBl2⊢
 obtain ⟨DA,hDA⟩:∃D,Q21 [x.val] (ms3.map Q05.term)=D:=⟨_,rfl⟩
 obtain ⟨DB,hDB⟩:∃D,Q21 [x.val] (ms4.map Q05.term)=D:=⟨_,rfl⟩
 rw[hDA] at hA2 hbA hvP
 rw[hDB] at hB2 hbB hvP
 clear hal hb2 hW15 hg18 x0' x1' x2' hDA hDB
 obtain ⟨nA,eA,aA,lA,cA,LA,hNA,hwA,hvA,hiA⟩:=hA2
 obtain ⟨nB,eB,aB,lB,cB,LB,hNB,hwB,hvB,hiB⟩:=hB2
 refine Q8g (by kernel_rfl) (fun k=>k != 4 && k != 5 && k != 6 && k != 7) (Qng W15.heap.size) Q7k (fun W=>Below W15.heap.size W15 W) Qr2 (Q6k [.agg #[.bool nA,.int .i64 eA,.slice aA lA cA],undef,.agg #[.bool nB,.int .i64 eB,.slice aB lB cB],undef,undef,undef,undef,undef] (Q5o [(1,fun u w=>Q4h w u DA),(3,fun u w=>Q4h w u DB),(4,fun _ _=>True),(5,fun _ _=>True),(6,fun _ _=>True),(7,fun _ _=>True)])) (Q0q (Q7j (E:=Qng W15.heap.size) (fun q hq v w w' h hs=>?_))) (Qv6 W15.heap.size DA DB) ?_ ?_ (by kernel_rfl) (by kernel_rfl) (Q08 W15) ?_ ?_ ?_
 ·simp only[List.mem_cons,List.not_mem_nil,or_false] at hq
  rcases hq with rfl|rfl|rfl|rfl|rfl|rfl
  ·exact Qdg v w w' h hs
  ·exact Qdg v w w' h hs
  ·trivial
  ·trivial
  ·trivial
  ·trivial
 ·intro D vs w w' k u hp hk h hb
  have h':=Qc2 h hb
  simp only[Bool.and_eq_true,bne_iff_ne] at hp
  obtain ⟨⟨⟨h4,h5⟩,h6⟩,h7⟩:=hp
  unfold Qv6
  rw[Q0w (Ne.symm h4),Q0w (Ne.symm h5),Q0w (Ne.symm h6),Q0w (Ne.symm h7),Q1a (Ne.symm h4),Q1a (Ne.symm h5)]
  exact h'
 ·intro i o hi hd
  rcases Qe1 (x:=6) (y:=7) (by kernel_rfl) hi hd with rfl|rfl
  ·refine ⟨fun v u w _=>(Q06 rfl).2 trivial,fun D vs v w h=>?_⟩
   unfold Qv6 at h
   rw[Q1a (by decide),Q1a (by decide)] at h
   exact h
  ·refine ⟨fun v u w _=>(Q06 rfl).2 trivial,fun D vs v w h=>?_⟩
   unfold Qv6 at h
   rw[Q1a (by decide),Q1a (by decide)] at h
   exact h
 ·intro vs
  exact ⟨fun h=>(by cases h),fun h=>(by cases h),fun h=>(by cases h)⟩
 ·skip
  refine ⟨.inl ⟨rfl,fun A W hW hag hdep=>?_⟩,?_⟩
  ·have e16:A.tmps[16]?.getD undef=.pointer (some ⟨g16,0,none⟩):=Q03 (hag.keep (t:=16) (by kernel_rfl) rfl)
   have hN:=hNA.step hW hAl2
   refine Q01 rfl ?_
   refine Q02 (u:=.agg #[.bool nA,.int .i64 eA,.slice aA lA cA]) ?_ ((Q00 rfl).2 rfl)
   simp[go_sem,e16,hN.c0,hN.c1,hN.c2]
  refine ⟨.inl ⟨rfl,fun A W hW hag hdep=>?_⟩,?_⟩
  ·have e114:A.tmps[114]?.getD undef=.agg #[.bool nA,.int .i64 eA,.slice aA lA cA]:=Q03 ((Q00 rfl).1 (hdep 0 (by decide)))
   refine Q01 rfl ?_
   refine Q0j (f:=24) (args:= #[.agg #[.bool nA,.int .i64 eA,.slice aA lA cA]]) (by simp[go_sem,e114]) ((Q8a nA eA aA lA cA LA W (hwA.step hW) hiA).mono ?_)
   rintro e w2' ⟨u',rfl,hv',hb'⟩
   rw[hvA] at hv'
   exact ⟨_,rfl,hb',(Q06 rfl).2 hv'⟩
  refine ⟨.inl ⟨rfl,fun A W hW hag hdep=>?_⟩,?_⟩
  ·have e18:A.tmps[18]?.getD undef=.pointer (some ⟨g18,0,none⟩):=Q03 (hag.keep (t:=18) (by kernel_rfl) rfl)
   have hN:=hNB.step hW hBl2
   refine Q01 rfl ?_
   refine Q02 (u:=.agg #[.bool nB,.int .i64 eB,.slice aB lB cB]) ?_ ((Q00 rfl).2 rfl)
   simp[go_sem,e18,hN.c0,hN.c1,hN.c2]
  refine ⟨.inl ⟨rfl,fun A W hW hag hdep=>?_⟩,?_⟩
  ·have e116:A.tmps[116]?.getD undef=.agg #[.bool nB,.int .i64 eB,.slice aB lB cB]:=Q03 ((Q00 rfl).1 (hdep 2 (by decide)))
   refine Q01 rfl ?_
   refine Q0j (f:=24) (args:= #[.agg #[.bool nB,.int .i64 eB,.slice aB lB cB]]) (by simp[go_sem,e116]) ((Q8a nB eB aB lB cB LB W (hwB.step hW) hiB).mono ?_)
   rintro e w2' ⟨u',rfl,hv',hb'⟩
   rw[hvB] at hv'
   exact ⟨_,rfl,hb',(Q06 rfl).2 hv'⟩
  refine ⟨.inr fun A W D hW hV hB hag hk hdep hcl=>?_,?_⟩
  ·have hbW:Below W.heap.size W (W.alloc (.cells #[.bool false,.slice none 0 0,.int .i64 0] 56)):=(Below.refl _ _).alloc (Nat.le_refl _) _
   have d6:D 6=false:=Q31 hcl (j:=6) rfl (k:=4) (by decide) hk
   have h':=Qc2 hB hbW
   refine Qag (Q62 (by rfl) W) ⟨Q7k _ _ hbW,(Q06 rfl).2 trivial,fun _=>⟨W.heap.size,Q5t _ _ _,hW.size,Q0f _ _,fun _=>Q04.new W _ _ _ _,fun h=>?_⟩,?_,fun _ h5 e=>?_⟩
   ·rw[Q0w (by decide),d6] at h;cases h
   ·rw[Q0w (by decide),Q0w (by decide),Q1a (by decide)]
    exact h'.2.1
   ·rw[Q0w (by decide)] at h5
    rw[Q5t,Q1a (by decide)] at e
    obtain ⟨g,hg,_,hgl,_⟩:=hB.2.1 h5
    rw[hg] at e
    simp at e
  refine ⟨.inr fun A W D hW hV hB hag hk hdep hcl=>?_,?_⟩
  ·have hbW:Below W.heap.size W (W.alloc (.cells #[.bool false,.slice none 0 0,.int .i64 0] 56)):=(Below.refl _ _).alloc (Nat.le_refl _) _
   have d7:D 7=false:=Q31 hcl (j:=7) rfl (k:=5) (by decide) hk
   have h':=Qc2 hB hbW
   refine Qag (Q62 (by rfl) W) ⟨Q7k _ _ hbW,(Q06 rfl).2 trivial,?_,fun _=>⟨W.heap.size,Q5t _ _ _,hW.size,Q0f _ _,fun _=>Q04.new W _ _ _ _,fun h=>?_⟩,fun h4 _ e=>?_⟩
   ·rw[Q0w (by decide),Q0w (by decide),Q1a (by decide)]
    exact h'.1
   ·rw[Q0w (by decide),d7] at h;cases h
   ·rw[Q0w (by decide)] at h4
    rw[Q5t,Q1a (by decide)] at e
    obtain ⟨g,hg,_,hgl,_⟩:=hB.1 h4
    rw[hg] at e
    simp at e
  refine ⟨.inr fun A W D hW hV hB hag hk hdep hcl=>?_,?_⟩
  ·obtain ⟨g,hg,hgB,hgl,hgz,_⟩:=hB.1 (hdep 4 (by decide))
   obtain ⟨n3,a3',l3,c3',e3,v3,hv3,hd3,hc3,hD3⟩:=(Q06 rfl).1 (hV 1 (hdep 1 (by decide)))
   have e20:A.tmps[20]?.getD undef=.pointer (some ⟨g,0,none⟩):=Q03 hg
   have e115:A.tmps[115]?.getD undef=.agg #[.bool n3,.slice a3' l3 c3',.int .i64 e3]:=Q03 hv3
   have hz:Q04 W g (.bool false) (.slice none 0 0) (.int .i64 0):=hgz hk
   obtain ⟨f1,f2,f3,f4⟩:=Qeb (NB:=W15.heap.size) hz hgl hgB hd3 hc3 hD3
   have k0:=hz.c0
   have q0:=hz.f0
   have q1:=hz.f1
   have q2:=hz.f2
   have d1:=hz.d1 (.bool n3)
   have d2:=hz.d2 (.bool n3) (.slice a3' l3 c3')
   refine Qc3 (w':=((W.setCell ⟨g,0,none⟩ (.bool n3)).setCell ⟨g,1,none⟩ (.slice a3' l3 c3')).setCell ⟨g,2,none⟩ (.int .i64 e3)) (by simp[go_sem,e20,e115,k0,q0,q1,q2,d1,d2]) ⟨f1,(Q06 rfl).2 trivial,fun _=>⟨g,?_,hgB,f3,fun h=>?_,fun _=>f2⟩,fun h5=>?_,?_⟩
   ·rw[Q1a (by decide)];exact hg
   ·rw[Q43] at h;cases h
   ·rw[Q0w (by decide)] at h5
    obtain ⟨g',hg',hgB',hgl',hz',hf'⟩:=hB.2.1 h5
    have hne:g'≠g:=fun e=>hB.2.2 (hdep 4 (by decide)) h5 (by rw[hg,hg',e])
    rw[Q0w (by decide),Q1a (by decide)]
    exact ⟨g',hg',hgB',Nat.lt_of_lt_of_le hgl' (Q14 _ _ _ _ _),fun h=>(f4 g' DB hne).1 (hz' h),fun h=>(f4 g' DB hne).2 (hf' h)⟩
   ·rw[Q0w (by decide),Q0w (by decide),Q1a (by decide),Q1a (by decide)]
    exact hB.2.2
  refine ⟨.inr fun A W D hW hV hB hag hk hdep hcl=>?_,?_⟩
  ·obtain ⟨g,hg,hgB,hgl,hgz,_⟩:=hB.2.1 (hdep 5 (by decide))
   obtain ⟨n3,a3',l3,c3',e3,v3,hv3,hd3,hc3,hD3⟩:=(Q06 rfl).1 (hV 3 (hdep 3 (by decide)))
   have e21:A.tmps[21]?.getD undef=.pointer (some ⟨g,0,none⟩):=Q03 hg
   have e117:A.tmps[117]?.getD undef=.agg #[.bool n3,.slice a3' l3 c3',.int .i64 e3]:=Q03 hv3
   have hz:Q04 W g (.bool false) (.slice none 0 0) (.int .i64 0):=hgz hk
   obtain ⟨f1,f2,f3,f4⟩:=Qeb (NB:=W15.heap.size) hz hgl hgB hd3 hc3 hD3
   have k0:=hz.c0
   have q0:=hz.f0
   have q1:=hz.f1
   have q2:=hz.f2
   have d1:=hz.d1 (.bool n3)
   have d2:=hz.d2 (.bool n3) (.slice a3' l3 c3')
   refine Qc3 (w':=((W.setCell ⟨g,0,none⟩ (.bool n3)).setCell ⟨g,1,none⟩ (.slice a3' l3 c3')).setCell ⟨g,2,none⟩ (.int .i64 e3)) (by simp[go_sem,e21,e117,k0,q0,q1,q2,d1,d2]) ⟨f1,(Q06 rfl).2 trivial,fun h4=>?_,fun _=>⟨g,?_,hgB,f3,fun h=>?_,fun _=>f2⟩,?_⟩
   ·rw[Q0w (by decide)] at h4
    obtain ⟨g',hg',hgB',hgl',hz',hf'⟩:=hB.1 h4
    have hne:g'≠g:=fun e=>hB.2.2 h4 (hdep 5 (by decide)) (by rw[hg,hg',e])
    rw[Q0w (by decide),Q1a (by decide)]
    exact ⟨g',hg',hgB',Nat.lt_of_lt_of_le hgl' (Q14 _ _ _ _ _),fun h=>(f4 g' DA hne).1 (hz' h),fun h=>(f4 g' DA hne).2 (hf' h)⟩
   ·rw[Q1a (by decide)];exact hg
   ·rw[Q43] at h;cases h
   ·rw[Q0w (by decide),Q0w (by decide),Q1a (by decide),Q1a (by decide)]
    exact hB.2.2
  exact trivial
 intro D vs W18 hall hc18 hv18 hB18
 obtain ⟨g20,hg20,hgB20,hgl20,_,hF20⟩:=hB18.1 (hall 4 (by decide))
 obtain ⟨g21,hg21,hgB21,hgl21,_,hF21⟩:=hB18.2.1 (hall 5 (by decide))
 have h20:=hF20 (hall 6 (by decide))
 have h21:=hF21 (hall 7 (by decide))
 simp only[Q10,Act.put,List.setIfInBounds_toArray,List.set_cons_zero,List.set_cons_succ]
 rw[hg20,hg21]
 have hbw18:=Below.next0 hbw15 hc18
 have hP18:=Q5s _ _ _ _ hP2 hPl2 hc18
 have hPl18:=Nat.lt_of_lt_of_le hPl2 hc18.size
 clear hB18 hv18 hc18 hall hgB20 hgB21 hF20 hF21 hg20 hg21 hbw15 hP2 hPl2 hNA hNB hwA hwB hvA hvB hiA hiB hAl2 hBl2
 obtain ⟨nP,aP,lP,cP,eP,vP,hNP,hdP,hcP,hDP⟩:=h20
 obtain ⟨nQ,aQ,lQ,cQ,eQ,vQ,hNQ,hdQ,hcQ,hDQ⟩:=h21
 have hb1:bnd 340 (DA*DB):=hbA.mul hbB
 have hb2:bnd 340 (DA*DA):=hbA.mul hbA
 have hb3:bnd 341 (DA*DB+ -(DA*DA)):=hb1.add hb2.neg
 have hb4:bnd 342 (DA*DB+ -(DA*DA)+DB):=hb3.add (hbB.more (by decide))
 have hDw:DP=DA*DB+ -(DA*DA)+DB:=by rw[hvP];grind
 have hQ9:∀W,Below W18.heap.size W18 W->Q4h W (.agg #[.bool nQ,.slice aQ lQ cQ,.int .i64 eQ]) DB:=fun W hW=>⟨_,_,_,_,_,_,rfl,hdQ.step hW,hcQ,hDQ⟩
 go_upto_region 19 with fail
 refine Qc1 (by kernel_rfl) 10 rfl (fun W=>Below W18.heap.size W18 W) (fun _ _ h h'=>Below.next0 h h') (Q6k [.agg #[.bool nP,.slice aP lP cP,.int .i64 eP],.agg #[.bool nQ,.slice aQ lQ cQ,.int .i64 eQ],undef,.agg #[.bool nP,.slice aP lP cP,.int .i64 eP],.agg #[.bool nP,.slice aP lP cP,.int .i64 eP],undef,undef,.agg #[.bool nQ,.slice aQ lQ cQ,.int .i64 eQ],undef,undef] (Q5o [(2,fun u w=>Q4h w u (DA*DB)),(5,fun u w=>Q4h w u (DA*DA)),(6,fun u w=>Q4h w u (DA*DB+ -(DA*DA))),(8,fun u w=>Q4h w u (DA*DB+ -(DA*DA)+DB)),(9,Qwd W18.heap.size)])) (Q0q (Q1c (Qwr (Q1d _) (Q1d _) (Q1d _) (Q1d _) (Qjk _)))) 9 (by decide) (fun v W'=>∃g,v=.pointer (some ⟨g,0,none⟩)/\g<W'.heap.size/\Qv3 (DA*DB+ -(DA*DA)+DB) W' g/\Below W18.heap.size W18 W') (by kernel_rfl) (by kernel_rfl) (by kernel_rfl) (by kernel_rfl) (Q08 W18) ?_ ?_ ?_
 ·skip
  refine ⟨fun A W hW hag hdep=>?_,?_⟩
  ·have e20:A.tmps[20]?.getD undef=.pointer (some ⟨g20,0,none⟩):=Q03 (hag.keep (t:=20) (by kernel_rfl) rfl)
   have hN:=hNP.step hW hgl20
   refine Q01 rfl ?_
   refine Q02 (u:=.agg #[.bool nP,.slice aP lP cP,.int .i64 eP]) ?_ ((Q00 rfl).2 rfl)
   simp[go_sem,e20,hN.c0,hN.c1,hN.c2]
  refine ⟨fun A W hW hag hdep=>?_,?_⟩
  ·have e21:A.tmps[21]?.getD undef=.pointer (some ⟨g21,0,none⟩):=Q03 (hag.keep (t:=21) (by kernel_rfl) rfl)
   have hN:=hNQ.step hW hgl21
   refine Q01 rfl ?_
   refine Q02 (u:=.agg #[.bool nQ,.slice aQ lQ cQ,.int .i64 eQ]) ?_ ((Q00 rfl).2 rfl)
   simp[go_sem,e21,hN.c0,hN.c1,hN.c2]
  refine ⟨fun A W hW hag hdep=>?_,?_⟩
  ·have e118:A.tmps[118]?.getD undef=.agg #[.bool nP,.slice aP lP cP,.int .i64 eP]:=Q03 ((Q00 rfl).1 (hdep 0 (by decide)))
   have e119:A.tmps[119]?.getD undef=.agg #[.bool nQ,.slice aQ lQ cQ,.int .i64 eQ]:=Q03 ((Q00 rfl).1 (hdep 1 (by decide)))
   refine Q01 rfl ?_
   refine Q0j (f:=27) (args:= #[.agg #[.bool nP,.slice aP lP cP,.int .i64 eP],.agg #[.bool nQ,.slice aQ lQ cQ,.int .i64 eQ]]) (by simp[go_sem,e118,e119]) ((Qgn nP aP lP cP eP vP nQ aQ lQ cQ eQ vQ W (hdP.step hW) (hdQ.step hW) hcP hcQ 170 (by rw[hDP];exact hbA) (by rw[hDQ];exact hbB) (by decide)).mono ?_)
   rintro e w2' ⟨u',rfl,hv',hb'⟩
   rw[hDP,hDQ] at hv'
   exact ⟨_,rfl,hb',(Q06 rfl).2 hv'⟩
  refine ⟨fun A W hW hag hdep=>?_,?_⟩
  ·have e20:A.tmps[20]?.getD undef=.pointer (some ⟨g20,0,none⟩):=Q03 (hag.keep (t:=20) (by kernel_rfl) rfl)
   have hN:=hNP.step hW hgl20
   refine Q01 rfl ?_
   refine Q02 (u:=.agg #[.bool nP,.slice aP lP cP,.int .i64 eP]) ?_ ((Q00 rfl).2 rfl)
   simp[go_sem,e20,hN.c0,hN.c1,hN.c2]
  refine ⟨fun A W hW hag hdep=>?_,?_⟩
  ·have e20:A.tmps[20]?.getD undef=.pointer (some ⟨g20,0,none⟩):=Q03 (hag.keep (t:=20) (by kernel_rfl) rfl)
   have hN:=hNP.step hW hgl20
   refine Q01 rfl ?_
   refine Q02 (u:=.agg #[.bool nP,.slice aP lP cP,.int .i64 eP]) ?_ ((Q00 rfl).2 rfl)
   simp[go_sem,e20,hN.c0,hN.c1,hN.c2]
  refine ⟨fun A W hW hag hdep=>?_,?_⟩
  ·have e121:A.tmps[121]?.getD undef=.agg #[.bool nP,.slice aP lP cP,.int .i64 eP]:=Q03 ((Q00 rfl).1 (hdep 3 (by decide)))
   have e122:A.tmps[122]?.getD undef=.agg #[.bool nP,.slice aP lP cP,.int .i64 eP]:=Q03 ((Q00 rfl).1 (hdep 4 (by decide)))
   refine Q01 rfl ?_
   refine Q0j (f:=27) (args:= #[.agg #[.bool nP,.slice aP lP cP,.int .i64 eP],.agg #[.bool nP,.slice aP lP cP,.int .i64 eP]]) (by simp[go_sem,e121,e122]) ((Qgn nP aP lP cP eP vP nP aP lP cP eP vP W (hdP.step hW) (hdP.step hW) hcP hcP 170 (by rw[hDP];exact hbA) (by rw[hDP];exact hbA) (by decide)).mono ?_)
   rintro e w2' ⟨u',rfl,hv',hb'⟩
   rw[hDP] at hv'
   exact ⟨_,rfl,hb',(Q06 rfl).2 hv'⟩
  refine ⟨fun A W hW hag hdep=>?_,?_⟩
  ·refine Q01 rfl ?_
   obtain ⟨n8,a8,l8,c8,q8,v8,hv8,hd8,hcn8,hD8⟩:=(Q06 rfl).1 (hdep 2 (by decide))
   obtain ⟨n9,a9,l9,c9,q9,v9,hv9,hd9,hcn9,hD9⟩:=(Q06 rfl).1 (hdep 5 (by decide))
   have e120:=Q03 hv8
   have e123:=Q03 hv9
   refine Q0j (f:=26) (args:= #[.agg #[.bool n8,.slice a8 l8 c8,.int .i64 q8],.agg #[.bool n9,.slice a9 l9 c9,.int .i64 q9]]) (by simp[go_sem,e120,e123]) ((Qbu n8 a8 l8 c8 q8 v8 n9 a9 l9 c9 q9 v9 W hd8 hd9 hcn8 hcn9 340 (by rw[hD8];exact hb1) (by rw[hD9];exact hb2) (by decide)).mono ?_)
   rintro e w2' ⟨u',rfl,hv',hb'⟩
   rw[hD8,hD9] at hv'
   exact ⟨_,rfl,hb',(Q06 rfl).2 hv'⟩
  refine ⟨fun A W hW hag hdep=>?_,?_⟩
  ·have e21:A.tmps[21]?.getD undef=.pointer (some ⟨g21,0,none⟩):=Q03 (hag.keep (t:=21) (by kernel_rfl) rfl)
   have hN:=hNQ.step hW hgl21
   refine Q01 rfl ?_
   refine Q02 (u:=.agg #[.bool nQ,.slice aQ lQ cQ,.int .i64 eQ]) ?_ ((Q00 rfl).2 rfl)
   simp[go_sem,e21,hN.c0,hN.c1,hN.c2]
  refine ⟨fun A W hW hag hdep=>?_,?_⟩
  ·refine Q01 rfl ?_
   obtain ⟨n8,a8,l8,c8,q8,v8,hv8,hd8,hcn8,hD8⟩:=(Q06 rfl).1 (hdep 6 (by decide))
   obtain ⟨n9,a9,l9,c9,q9,v9,hv9,hd9,hcn9,hD9⟩:=hQ9 W hW
   have e124:=Q03 hv8
   have e125:A.tmps[125]?.getD undef=.agg #[.bool n9,.slice a9 l9 c9,.int .i64 q9]:=Q03 (((Q00 rfl).1 (hdep 7 (by decide))).trans hv9)
   refine Q0j (f:=25) (args:= #[.agg #[.bool n8,.slice a8 l8 c8,.int .i64 q8],.agg #[.bool n9,.slice a9 l9 c9,.int .i64 q9]]) (by simp[go_sem,e124,e125]) ((Q7e n8 a8 l8 c8 q8 v8 n9 a9 l9 c9 q9 v9 W hd8 hd9 hcn8 hcn9 341 (by rw[hD8];exact hb3) (by rw[hD9];exact hbB.more (by decide)) (by decide)).mono ?_)
   rintro e w2' ⟨u',rfl,hv',hb'⟩
   rw[hD8,hD9] at hv'
   exact ⟨_,rfl,hb',(Q06 rfl).2 hv'⟩
  refine ⟨fun A W hW hag hdep=>?_,?_⟩
  ·refine Q01 rfl ?_
   exact Q7g (Q62 (by rfl) W) ((Below.refl _ _).alloc (Nat.le_refl _) _) ((Q06 rfl).2 ⟨W.heap.size,rfl,hW.size,Q04.new W _ _ _ _,Q0f _ _⟩)
  exact trivial
 ·intro A W hW hag hdep
  obtain ⟨g,hg,hgB,hgN,hgl⟩:=(Q06 rfl).1 (hdep 9 (by decide))
  obtain ⟨n8,a8,l8,c8,q8,v8,hv8,hd8,hcn8,hD8⟩:=(Q06 rfl).1 (hdep 8 (by decide))
  have e22:A.tmps[22]?.getD undef=.pointer (some ⟨g,0,none⟩):=Q03 hg
  have e126:A.tmps[126]?.getD undef=.agg #[.bool n8,.slice a8 l8 c8,.int .i64 q8]:=Q03 hv8
  have hz:Q04 W g (.bool false) (.slice none 0 0) (.int .i64 0):=hgN
  obtain ⟨f1,f2,f3,_⟩:=Qeb (NB:=W18.heap.size) hz hgl hgB hd8 hcn8 hD8
  have k0:=hz.c0
  have q0:=hz.f0
  have q1:=hz.f1
  have q2:=hz.f2
  have d1:=hz.d1 (.bool n8)
  have d2:=hz.d2 (.bool n8) (.slice a8 l8 c8)
  refine Q2f (w':=((W.setCell ⟨g,0,none⟩ (.bool n8)).setCell ⟨g,1,none⟩ (.slice a8 l8 c8)).setCell ⟨g,2,none⟩ (.int .i64 q8)) (by simp[go_sem,e22,e126,k0,q0,q1,q2,d1,d2]) ⟨g,hg,f3,f2,Qr2 _ _ hW f1⟩
 intro vs W19 hfin
 obtain ⟨g22,hg22,hgl22,hF22,hb19⟩:=hfin
 simp only[Q10,Act.put,List.setIfInBounds_toArray,List.set_cons_zero,List.set_cons_succ]
 rw[hg22]
 obtain ⟨nW,aW,lW,cW,eW,vW,hNW,hdW,hcW,hDW⟩:=hF22
 obtain ⟨nD,eD,aD,lD,cD,LD,hND,hwD,hvD,hiD⟩:=Q5s _ _ _ _ hP18 hPl18 hb19
 have hlD:=Nat.lt_of_lt_of_le hPl18 hb19.size
 have hbw19:=Below.next0 hbw18 hb19
 clear hb19 hg22 hP18 hPl18 hNP hNQ hdP hdQ hQ9
 go_upto_region 20 with fail
 refine Q0y (E:=Qi7) (fun w=>Below.refl _ w) (by kernel_rfl) (fun W=>Below W19.heap.size W19 W) (fun _ _ h h'=>Below.next0 h h') (Q6k [.agg #[.bool nD,.int .i64 eD,.slice aD lD cD],undef,.agg #[.bool nW,.slice aW lW cW,.int .i64 eW],.int .i64 0,.bool true,.bool true] (Q5o [(1,fun u w=>Q4h w u DP)])) (Q0q (Q1c (Qsr (Q1d _)))) (Q5x (by kernel_rfl)) (by kernel_rfl) (Q08 W19) ?_ ?_
 ·skip
  refine ⟨fun A W hW hag hdep=>?_,?_⟩
  ·have e14:A.tmps[14]?.getD undef=.pointer (some ⟨g14,0,none⟩):=Q03 (hag.keep (t:=14) (by kernel_rfl) rfl)
   have hN:=hND.step hW hlD
   refine Q01 rfl ?_
   refine Q02 (u:=.agg #[.bool nD,.int .i64 eD,.slice aD lD cD]) ?_ ((Q00 rfl).2 rfl)
   simp[go_sem,e14,hN.c0,hN.c1,hN.c2]
  refine ⟨fun A W hW hag hdep=>?_,?_⟩
  ·have e127:A.tmps[127]?.getD undef=.agg #[.bool nD,.int .i64 eD,.slice aD lD cD]:=Q03 ((Q00 rfl).1 (hdep 0 (by decide)))
   refine Q01 rfl ?_
   refine Q0j (f:=24) (args:= #[.agg #[.bool nD,.int .i64 eD,.slice aD lD cD]]) (by simp[go_sem,e127]) ((Q8a nD eD aD lD cD LD W (hwD.step hW) hiD).mono ?_)
   rintro e w2' ⟨u',rfl,hv',hb'⟩
   rw[hvD] at hv'
   exact ⟨_,rfl,hb',(Q06 rfl).2 hv'⟩
  refine ⟨fun A W hW hag hdep=>?_,?_⟩
  ·have e22:A.tmps[22]?.getD undef=.pointer (some ⟨g22,0,none⟩):=Q03 (hag.keep (t:=22) (by kernel_rfl) rfl)
   have hN:=hNW.step hW hgl22
   refine Q01 rfl ?_
   refine Q02 (u:=.agg #[.bool nW,.slice aW lW cW,.int .i64 eW]) ?_ ((Q00 rfl).2 rfl)
   simp[go_sem,e22,hN.c0,hN.c1,hN.c2]
  refine ⟨fun A W hW hag hdep=>?_,?_⟩
  ·refine Q01 rfl ?_
   obtain ⟨n8,a8,l8,c8,q8,v8,hv8,hd8,hcn8,hD8⟩:=(Q06 rfl).1 (hdep 1 (by decide))
   have e128:=Q03 hv8
   have e129:A.tmps[129]?.getD undef=.agg #[.bool nW,.slice aW lW cW,.int .i64 eW]:=Q03 ((Q00 rfl).1 (hdep 2 (by decide)))
   refine Q0j (f:=28) (args:= #[.agg #[.bool n8,.slice a8 l8 c8,.int .i64 q8],.agg #[.bool nW,.slice aW lW cW,.int .i64 eW]]) (by simp[go_sem,e128,e129]) ((Qgo n8 a8 l8 c8 q8 v8 nW aW lW cW eW vW W hd8 (hdW.step hW) hcn8 hcW 342 (by rw[hD8,hDw];exact hb4) (by rw[hDW];exact hb4) (by decide)).mono ?_)
   rintro e w2' ⟨⟨n7,v7,f7,rfl,hc7,hd7⟩,hb'⟩
   have h0:Qnl n7 v7=0:=(Qbs hc7).2 (by rw[hd7,hD8,hDW,hDw];grind)
   exact ⟨_,rfl,hb',(Q00 rfl).2 (by rw[h0];rfl)⟩
  refine ⟨fun A W hW hag hdep=>?_,?_⟩
  ·have e130:A.tmps[130]?.getD undef=.int .i64 0:=Q03 ((Q00 rfl).1 (hdep 3 (by decide)))
   refine Q01 rfl ?_
   refine Q02 (u:=.bool true) ?_ ((Q00 rfl).2 rfl)
   simp[go_sem,e130]
  refine ⟨fun A W hW hag hdep=>?_,?_⟩
  ·have e131:A.tmps[131]?.getD undef=.bool true:=Q03 ((Q00 rfl).1 (hdep 4 (by decide)))
   refine Q01 rfl ?_
   refine Q02 (u:=.bool true) ?_ ((Q00 rfl).2 rfl)
   simp[go_sem,e131]
  exact trivial
 intro vs W20 hW20 hvs
 have v5:vs 5=.bool true:=(Q00 rfl).1 (hvs 5 (by decide))
 simp only[Q10,Act.put,List.setIfInBounds_toArray,List.set_cons_zero,List.set_cons_succ]
 rw[v5]
 have HE:=Lib.hid (Below.next0 hbw19 hW20)
 clear hW20 hvs v5
 go_wp2_with fail
 go_ret
 exact ⟨rfl,HE.out⟩
end Go.Proofs.YtdilmfakkppgpaaGreatDoor
