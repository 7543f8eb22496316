/- Part 10 of the proof of LawParseMeans: ExactC, NumD, NumE. Condition: as each theorem says; none at the end. -/
import Derived.Test.YtdilmfakkppgpaaGreatDoorPkParseMeans09
set_option maxRecDepth 100000
set_option maxHeartbeats 16000000
namespace Go.Proofs.YtdilmfakkppgpaaGreatDoor
open Go.RowKit WordsM
def Qvb (w:World) (D:Dyadic) (T lo hi:Int) (r:Ending) (w':World):Prop:=∃n e a l c L,r=.returned (.agg #[.bool n,.int .i64 e,.slice a l c])/\WordsIn w' a l c L/\Q1q n e L=D/\lo<=e/\e<=hi/\64*(l:Int)+e<=T/\Below w.heap.size w w'
theorem Q9c (nx:Bool) (ex:Int) (ax:Option Addr) (lx cx:Nat) (ls:List Nat) (ny:Bool) (ey:Int) (ay:Option Addr) (ly cy:Nat) (ks:List Nat) (w:World) (h1:WordsIn w ax lx cx ls) (h2:WordsIn w ay ly cy ks) (hn:lx<=20000) (hm:ly<=20000) (he1: -1000000<=ex) (he2:ex<=1000000) (hf1: -1000000<=ey) (hf2:ey<=1000000) (T lo hi:Int) (ht1:64*(lx:Int)+ex<=T) (ht2:64*(ly:Int)+ey<=T) (hlo1:lo<=ex) (hlo2:lo<=ey) (hhi1:ex<=hi) (hhi2:ey<=hi):
 Calls Tryz.prog 55 #[.agg #[.bool nx,.int .i64 ex,.slice ax lx cx],.agg #[.bool ny,.int .i64 ey,.slice ay ly cy]] w (Qvb w (Q1q nx ex ls+Q1q ny ey ks) (T+64) lo hi):=by
 have hs1:(w.alloc (.cells #[.bool nx,.int .i64 ex,.slice ax lx cx] 41)).heap.size=w.heap.size+1:=World.size_alloc _ _
 have hs2:((w.alloc (.cells #[.bool nx,.int .i64 ex,.slice ax lx cx] 41)).alloc (.cells #[.bool ny,.int .i64 ey,.slice ay ly cy] 41)).heap.size=w.heap.size+2:=by rw[World.size_alloc,hs1]
 have hs3:(((w.alloc (.cells #[.bool nx,.int .i64 ex,.slice ax lx cx] 41)).alloc (.cells #[.bool ny,.int .i64 ey,.slice ay ly cy] 41)).alloc (.cells #[.bool false,.int .i64 0,.slice none 0 0] 41)).heap.size=w.heap.size+3:=by rw[World.size_alloc,hs2]
 have hb1:Below w.heap.size w (w.alloc (.cells #[.bool nx,.int .i64 ex,.slice ax lx cx] 41)):=(Below.refl _ _).alloc (Nat.le_refl _) _
 have hb2:Below (w.alloc (.cells #[.bool nx,.int .i64 ex,.slice ax lx cx] 41)).heap.size (w.alloc (.cells #[.bool nx,.int .i64 ex,.slice ax lx cx] 41)) ((w.alloc (.cells #[.bool nx,.int .i64 ex,.slice ax lx cx] 41)).alloc (.cells #[.bool ny,.int .i64 ey,.slice ay ly cy] 41)):=(Below.refl _ _).alloc (Nat.le_refl _) _
 have hb3:Below ((w.alloc (.cells #[.bool nx,.int .i64 ex,.slice ax lx cx] 41)).alloc (.cells #[.bool ny,.int .i64 ey,.slice ay ly cy] 41)).heap.size ((w.alloc (.cells #[.bool nx,.int .i64 ex,.slice ax lx cx] 41)).alloc (.cells #[.bool ny,.int .i64 ey,.slice ay ly cy] 41)) (((w.alloc (.cells #[.bool nx,.int .i64 ex,.slice ax lx cx] 41)).alloc (.cells #[.bool ny,.int .i64 ey,.slice ay ly cy] 41)).alloc (.cells #[.bool false,.int .i64 0,.slice none 0 0] 41)):=(Below.refl _ _).alloc (Nat.le_refl _) _
 have hX:Q04 (((w.alloc (.cells #[.bool nx,.int .i64 ex,.slice ax lx cx] 41)).alloc (.cells #[.bool ny,.int .i64 ey,.slice ay ly cy] 41)).alloc (.cells #[.bool false,.int .i64 0,.slice none 0 0] 41)) w.heap.size (.bool nx) (.int .i64 ex) (.slice ax lx cx):=((Q04.new w _ _ _ _).step hb2 (Q0f _ _)).step hb3 (by rw[hs2];omega)
 have hY:Q04 (((w.alloc (.cells #[.bool nx,.int .i64 ex,.slice ax lx cx] 41)).alloc (.cells #[.bool ny,.int .i64 ey,.slice ay ly cy] 41)).alloc (.cells #[.bool false,.int .i64 0,.slice none 0 0] 41)) (w.heap.size+1) (.bool ny) (.int .i64 ey) (.slice ay ly cy):=by
  have h:=(Q04.new (w.alloc (.cells #[.bool nx,.int .i64 ex,.slice ax lx cx] 41)) (.bool ny) (.int .i64 ey) (.slice ay ly cy) 41).step hb3 (Q0f _ _)
  rwa[hs1] at h
 have hR:Q04 (((w.alloc (.cells #[.bool nx,.int .i64 ex,.slice ax lx cx] 41)).alloc (.cells #[.bool ny,.int .i64 ey,.slice ay ly cy] 41)).alloc (.cells #[.bool false,.int .i64 0,.slice none 0 0] 41)) (w.heap.size+2) (.bool false) (.int .i64 0) (.slice none 0 0):=by
  have h:=Q04.new ((w.alloc (.cells #[.bool nx,.int .i64 ex,.slice ax lx cx] 41)).alloc (.cells #[.bool ny,.int .i64 ey,.slice ay ly cy] 41)) (.bool false) (.int .i64 0) (.slice none 0 0) 41
  rwa[hs2] at h
 have hB:Below w.heap.size w (((w.alloc (.cells #[.bool nx,.int .i64 ex,.slice ax lx cx] 41)).alloc (.cells #[.bool ny,.int .i64 ey,.slice ay ly cy] 41)).alloc (.cells #[.bool false,.int .i64 0,.slice none 0 0] 41)):=Below.next0 (Below.next0 hb1 hb2) hb3
 generalize hW0:(((w.alloc (.cells #[.bool nx,.int .i64 ex,.slice ax lx cx] 41)).alloc (.cells #[.bool ny,.int .i64 ey,.slice ay ly cy] 41)).alloc (.cells #[.bool false,.int .i64 0,.slice none 0 0] 41))=W0 at hs3 hX hY hR hB
 have hQ:∀W,Below W0.heap.size W0 W->Q04 W w.heap.size (.bool nx) (.int .i64 ex) (.slice ax lx cx)/\Q04 W (w.heap.size+1) (.bool ny) (.int .i64 ey) (.slice ay ly cy)/\Q04 W (w.heap.size+2) (.bool false) (.int .i64 0) (.slice none 0 0)/\w.heap.size+2<W.heap.size/\Below w.heap.size w W:=fun W hb=>
  ⟨hX.step hb (by omega),hY.step hb (by omega),hR.step hb (by omega),Nat.lt_of_lt_of_le (by omega) hb.size,Below.next0 hB hb⟩
 have HQ:=Lib.hid hQ
 have hsx:=fun W (hb:Below w.heap.size w W)=>Q7p nx ex ax lx cx ls W (h1.step hb) (by omega)
 have hsy:=fun W (hb:Below w.heap.size w W)=>Q7p ny ey ay ly cy ks W (h2.step hb) (by omega)
 have HW:=Xh2 h1 h2
 clear hs1 hs2 hs3 hb1 hb2 hb3 hX hY hR hQ h1 h2
 obtain ⟨hx0,hx1,hx2,_,_,_⟩:=(HQ.out W0 (Below.refl _ _)).1
 by_cases hv1:val (2^64) ls=0
 ·simp only[hv1,if_true] at hsx
  have HS:=Lib.hid hsx
  have HV:=Lib.hid hv1
  clear hsx hsy hv1
  go_enter Tryz.func55,Tryz.ntmps55
  go_wp2_with (refine (HS.out W0 hB).mono ?_;rintro r w1 ⟨rfl,hb1⟩;obtain ⟨_,g1,g2,g3,g4⟩:=HQ.out w1 hb1;have yc0:=g1.c0;have yc1:=g1.c1;have yc2:=g1.c2;have rc0:=g2.c0;have rc1:=g2.c1;have rc2:=g2.c2;have rf0:=g2.f0;have rf1:=g2.f1;have rf2:=g2.f2;have rd1:=g2.d1 (.bool ny);have rd2:=g2.d2 (.bool ny) (.int .i64 ey);have HA:=Xh3 g2 g3 g4;clear g1 g2 g3 g4)
  have hS:=(Xo0 HA).store (.bool ny) (.int .i64 ey) (.slice ay ly cy)
  have k0:=hS.c0
  have k1:=hS.c1
  have k2:=hS.c2
  have hbz:=Q04.below (Xe2 HA) (show w.heap.size<=w.heap.size+2 by omega) (.bool ny) (.int .i64 ey) (.slice ay ly cy)
  exact ⟨rfl,.agg #[.bool ny,.int .i64 ey,.slice ay ly cy],by simp[results,go_sem,k0,k1,k2],ny,ey,ay,ly,cy,ks,rfl,(Xe1 HW).step hbz,by rw[Qf1 _ _ HV.out,Dyadic.zero_add],hlo2,hhi2,by omega,hbz⟩
 ·have hsx':=hsx
  simp only[hv1,if_false] at hsx
  have hsn:∀W (hb:Below w.heap.size w W),Calls Tryz.prog 99 #[.agg #[.bool nx,.int .i64 ex,.slice ax lx cx]] W fun r w'=>(∃s:Int,r=.returned (.int .i64 s)/\s≠0)/\Below W.heap.size W w':=fun W hb=>(hsx W hb).mono (by rintro r w' ⟨rfl,hb'⟩;exact ⟨⟨_,rfl,by split <;> decide⟩,hb'⟩)
  by_cases hv2:val (2^64) ks=0
  ·simp only[hv2,if_true] at hsy
   have HS:=Xh2 hsn hsy
   have HV:=Lib.hid hv2
   clear hsx hsx' hsy hsn hv1 hv2
   go_enter Tryz.func55,Tryz.ntmps55
   go_wp2_with (first
    |(go_at_call_of 99 ax;refine ((Xo0 HS) W0 hB).mono ?_;rintro r w1 ⟨⟨s,rfl,hs⟩,hb1⟩;have hs0:(s==0)=false:=(by rw[beq_eq_false_iff_ne];exact hs);obtain ⟨g0,g1,g2,g3,g4⟩:=HQ.out w1 hb1;have yc0:=g1.c0;have yc1:=g1.c1;have yc2:=g1.c2;have HA:=Xh2 hb1 g4;clear g0 g1 g2 g3 g4 hb1)
    |(go_at_call_of 99 ay;refine ((Xe1 HS) w1 (Xe1 HA)).mono ?_;rintro r w2 ⟨rfl,hb2⟩;obtain ⟨g0,g1,g2,g3,g4⟩:=HQ.out w2 (Below.next0 (Xo0 HA) hb2);have xc0:=g0.c0;have xc1:=g0.c1;have xc2:=g0.c2;have rc0:=g2.c0;have rc1:=g2.c1;have rc2:=g2.c2;have rf0:=g2.f0;have rf1:=g2.f1;have rf2:=g2.f2;have rd1:=g2.d1 (.bool nx);have rd2:=g2.d2 (.bool nx) (.int .i64 ex);have HC:=Xh3 g2 g3 g4;clear g0 g1 g2 g3 g4 hb2))
   have hS:=(Xo0 HC).store (.bool nx) (.int .i64 ex) (.slice ax lx cx)
   have k0:=hS.c0
   have k1:=hS.c1
   have k2:=hS.c2
   have hbz:=Q04.below (Xe2 HC) (show w.heap.size<=w.heap.size+2 by omega) (.bool nx) (.int .i64 ex) (.slice ax lx cx)
   exact ⟨rfl,.agg #[.bool nx,.int .i64 ex,.slice ax lx cx],by simp[results,go_sem,k0,k1,k2],nx,ex,ax,lx,cx,ls,rfl,(Xo0 HW).step hbz,by rw[Qf1 _ _ HV.out,Dyadic.add_zero],hlo1,hhi1,by omega,hbz⟩
  ·simp only[hv2,if_false] at hsy
   have hsm:∀W (hb:Below w.heap.size w W),Calls Tryz.prog 99 #[.agg #[.bool ny,.int .i64 ey,.slice ay ly cy]] W fun r w'=>(∃s:Int,r=.returned (.int .i64 s)/\s≠0)/\Below W.heap.size W w':=fun W hb=>(hsy W hb).mono (by rintro r w' ⟨rfl,hb'⟩;exact ⟨⟨_,rfl,by split <;> decide⟩,hb'⟩)
   have HS:=Xh2 hsn hsm
   have HV:=Xh2 hv1 hv2
   clear hsx hsx' hsy hsn hsm hv1 hv2
   obtain ⟨D,hD⟩:∃D,Q1q nx ex ls+Q1q ny ey ks=D:=⟨_,rfl⟩
   rw[hD]
   have HD:=Lib.hid hD
   clear hD
   go_enter Tryz.func55,Tryz.ntmps55
   go_upto_block 0 with fail
   go_cut [] (fun wx=>∃n1 e1 a1 l1 c1 L1 n2 e2 a2 l2 c2 L2,Qva w wx D T lo hi n1 e1 a1 l1 c1 L1 n2 e2 a2 l2 c2 L2)
   case first=>
    by_cases hlt:ey<ex
    ·go_wp2_with (first
      |(go_at_call_of 99 ax;refine ((Xo0 HS) W0 hB).mono ?_;rintro r w1 ⟨⟨s,rfl,hs⟩,hb1⟩;have hs0:(s==0)=false:=(by rw[beq_eq_false_iff_ne];exact hs);obtain ⟨g0,g1,g2,g3,g4⟩:=HQ.out w1 hb1;have yc0:=g1.c0;have yc1:=g1.c1;have yc2:=g1.c2;have HA:=Xh2 hb1 g4;clear g0 g1 g2 g3 g4 hb1)
      |(go_at_call_of 99 ay;refine ((Xe1 HS) w1 (Xe1 HA)).mono ?_;rintro r w2 ⟨⟨s2,rfl,hs2⟩,hb2⟩;have hs20:(s2==0)=false:=(by rw[beq_eq_false_iff_ne];exact hs2);obtain ⟨g0,g1,g2,g3,g4⟩:=HQ.out w2 (Below.next0 (Xo0 HA) hb2);have xc0:=g0.c0;have xc1:=g0.c1;have xc2:=g0.c2;have xf0:=g0.f0;have xf1:=g0.f1;have xf2:=g0.f2;have xd1:=g0.d1 (.bool ny);have xd2:=g0.d2 (.bool ny) (.int .i64 ey);have zc0:=g1.c0;have zc1:=g1.c1;have zc2:=g1.c2;have gs0:=g0.store (.bool ny) (.int .i64 ey) (.slice ay ly cy);have gs1:=g1.far3 (show w.heap.size≠w.heap.size+1 by omega) (.bool ny) (.int .i64 ey) (.slice ay ly cy);have sc0:=gs1.c0;have sc1:=gs1.c1;have sc2:=gs1.c2;have sf0:=gs1.f0;have sf1:=gs1.f1;have sf2:=gs1.f2;have sd1:=gs1.d1 (.bool nx);have sd2:=gs1.d2 (.bool nx) (.int .i64 ex);have gz:=And.intro (gs0.far3 (show w.heap.size+1≠w.heap.size by omega) (.bool nx) (.int .i64 ex) (.slice ax lx cx)) (And.intro (gs1.store (.bool nx) (.int .i64 ex) (.slice ax lx cx)) (And.intro ((g2.far3 (show w.heap.size≠w.heap.size+2 by omega) (.bool ny) (.int .i64 ey) (.slice ay ly cy)).far3 (show w.heap.size+1≠w.heap.size+2 by omega) (.bool nx) (.int .i64 ex) (.slice ax lx cx)) (Q04.below (Q04.below g4 (Nat.le_refl _) (.bool ny) (.int .i64 ey) (.slice ay ly cy)) (show w.heap.size<=w.heap.size+1 by omega) (.bool nx) (.int .i64 ex) (.slice ax lx cx))));have HZ:=Lib.hid gz;clear gs0 gs1 gz;skip;have HC:=Xh5 g0 g1 g2 g3 g4;clear g0 g1 g2 g3 g4 hb2))
     go_meet
     exact ⟨_,_,_,_,_,_,_,_,_,_,_,_,(Xo0 HZ),(Xo1 HZ),(Xo2 HZ),by rw[Qv9,Qv9];exact (Xo3 HC),(Xe1 HW),(Xo0 HW),by omega,(Xe1 HV),(Xo0 HV),hm,hn,hlo2,hhi1,by omega,ht2,ht1,(by rw[Dyadic.add_comm];exact HD.out),(Xe3 HZ)⟩
    ·go_wp2_with (first
      |(go_at_call_of 99 ax;refine ((Xo0 HS) W0 hB).mono ?_;rintro r w1 ⟨⟨s,rfl,hs⟩,hb1⟩;have hs0:(s==0)=false:=(by rw[beq_eq_false_iff_ne];exact hs);obtain ⟨g0,g1,g2,g3,g4⟩:=HQ.out w1 hb1;have yc0:=g1.c0;have yc1:=g1.c1;have yc2:=g1.c2;have HA:=Xh2 hb1 g4;clear g0 g1 g2 g3 g4 hb1)
      |(go_at_call_of 99 ay;refine ((Xe1 HS) w1 (Xe1 HA)).mono ?_;rintro r w2 ⟨⟨s2,rfl,hs2⟩,hb2⟩;have hs20:(s2==0)=false:=(by rw[beq_eq_false_iff_ne];exact hs2);obtain ⟨g0,g1,g2,g3,g4⟩:=HQ.out w2 (Below.next0 (Xo0 HA) hb2);have xc0:=g0.c0;have xc1:=g0.c1;have xc2:=g0.c2;have zc0:=g1.c0;have zc1:=g1.c1;have zc2:=g1.c2;have HC:=Xh5 g0 g1 g2 g3 g4;clear g0 g1 g2 g3 g4 hb2))
     go_meet
     exact ⟨_,_,_,_,_,_,_,_,_,_,_,_,(Xo0 HC),(Xo1 HC),(Xo2 HC),(Xo3 HC),(Xo0 HW),(Xe1 HW),by omega,(Xo0 HV),(Xe1 HV),hn,hm,hlo1,hhi2,by omega,ht1,ht2,HD.out,(Xe4 HC)⟩
   case rest=>
    obtain ⟨n1,e1,a1,l1,c1,L1,n2,e2,a2,l2,c2,L2,hP⟩:=hcut
    have hle:=hP.le
    have hs1:=hP.s1
    have hs2:=hP.s2
    have hlo:=hP.lo1
    have hhi:=hP.hi2
    have hrng:=hP.rng
    obtain ⟨z,hz⟩:∃z:Nat,e2-e1=(z:Int):=⟨(e2-e1).toNat,by omega⟩
    have hw1l:=hP.w1.len
    have hw2l:=hP.w2.len
    have hfit:=fun V (hV:V<=val (2^64) L1+val (2^64) L2*2^z)=>Qu0 (T:=T) (e1:=e1) (e2:=e2) (by have:=Q8o hP.w1.low;rwa[hw1l] at this) (by have:=Q8o hP.w2.low;rwa[hw2l] at this) hV hz hP.t1 hP.t2
    have hup:=Qoi a2 l2 c2 L2 z wc (hP.w2.step hP.bel) (by omega) (by omega)
    have xc0:=hP.b1.c0
    have xc1:=hP.b1.c1
    have xc2:=hP.b1.c2
    have yc0:=hP.b2.c0
    have yc1:=hP.b2.c1
    have yc2:=hP.b2.c2
    have HU:=Lib.hid hup
    clear hup HD HV HS
    have hsum:=hP.sum
    rw[Qtz n2 e1 e2 L2 z hz] at hsum
    unfold Q1q at hsum
    rw[Qju] at hsum
    obtain ⟨v2,hv2⟩:∃v2,val (2^64) L2*2^z=v2:=⟨_,rfl⟩
    have hv20:v2≠0:=by rw[<-hv2];exact Nat.mul_ne_zero hP.v2 (Nat.pos_iff_ne_zero.1 (Nat.pow_pos (by decide)))
    have hl3:64*(dig (2^64) v2).length<=64*l2+z+63:=Qjw (by
     rw[<-hv2,Nat.pow_add]
     exact Nat.mul_lt_mul_of_pos_right (by have:=Q8o hP.w2.low;rwa[hw2l] at this) (Nat.pow_pos (by decide)))
    rw[hv2] at hsum hfit HU
    have HF:=Xh4 hsum hfit hv20 hP.v1
    have hbel:=hP.bel
    have HP:=Lib.hid hP
    clear hsum hfit hv2 hv20 hP
    by_cases hnn:n1=n2
    ·subst hnn
     have hne:(n1==n1)=true:=by simp
     go_wp2_with (go_at_call_of 100 a2;refine HU.out.mono ?_;rintro r w3 ⟨a3,l3,c3,rfl,hW3,hb3⟩;have g0:=HP.out.b1.step hb3 (by have:=HP.out.lt;omega);have uc0:=g0.c0;have uc1:=g0.c1;have uc2:=g0.c2;have g1:=HP.out.b2.step hb3 (by have:=HP.out.lt;omega);have vc0:=g1.c0;have vc1:=g1.c1;have vc2:=g1.c2;clear g1;have HE:=Xh2 hW3 hb3;clear g0 hW3 hb3)
     have hcc:w.heap.size+2<w3.heap.size:=Nat.lt_of_lt_of_le HP.out.lt (Xe1 HE).size
     have hbr:=HP.out.br.step (Xe1 HE) HP.out.lt
     have hb1:=HP.out.b1.step (Xe1 HE) (by have:=HP.out.lt;omega)
     have hadd:∀W,WordsIn W a1 l1 c1 L1->WordsIn W a3 l3 c3 (dig (2^64) v2)->Calls Tryz.prog 101 #[.slice a1 l1 c1,.slice a3 l3 c3] W (Qaj W (val (2^64) L1+v2)):=fun W q1 q2=>by
      have h:=Qcb a1 l1 c1 L1 a3 l3 c3 _ W q1 q2 (by omega) (by
       have h6:=(Xo0 HE).len
       omega)
      rwa[Q0r (by decide)] at h
     have HQ2:=Lib.hid (show∀W,Qni (w.heap.size+2) w3 W->Q04 W w.heap.size (.bool n1) (.int .i64 e1) (.slice a1 l1 c1)/\WordsIn W a1 l1 c1 L1/\WordsIn W a3 l3 c3 (dig (2^64) v2)/\Below w.heap.size w W from fun W hW=>by
      have hb:=Below.turn (Below.next0 HP.out.bel (Xe1 HE)) hW.1 (Below.next0 HP.out.bel (Xe1 HE)).size (fun k e=>by omega)
      exact ⟨hb1.turn hW.1 (by omega) (by omega),HP.out.w1.step hb,hW.2.2 _ _ _ _ (Xo0 HE),hb⟩)
     have HAD:=Lib.hid hadd
     have H00:Qni (w.heap.size+2) w3 w3.drew:=Qni.start hbr hcc
     clear hcc hbr hb1 hadd uc0 uc1 uc2 vc0 vc1 vc2
     refine Q0y (E:=Qjy (w.heap.size+2) (Qas (w.heap.size+2) (.bool n1) (.int .i64 e1) (dig (2^64) (val (2^64) L1+v2)))) (Qjy.refl _ _) (by kernel_rfl) (fun W=>Qni (w.heap.size+2) w3 W) (fun _ _ h h'=>h.next h') (Q6k [.pointer (some ⟨w.heap.size,0,none⟩),.bool n1,.pointer (some ⟨w.heap.size,1,none⟩),.int .i64 e1,.pointer (some ⟨w.heap.size,2,none⟩),.slice a1 l1 c1,.slice a3 l3 c3,undef,undef,undef] (Qwe 7 8 9 (w.heap.size+2) (.bool n1) (.int .i64 e1) (dig (2^64) (val (2^64) L1+v2)))) (Qcl Qf4) (Qf2 9 rfl (by kernel_rfl)) (by kernel_rfl) H00 ?_ ?_
     ·skip
      refine ⟨fun A W hW hag hdep=>?_,?_⟩
      ·have e2:A.tmps[2]?.getD undef=.pointer (some ⟨w.heap.size,0,none⟩):=Q03 (hag.keep (t:=2) (by kernel_rfl) rfl)
       refine Q01 rfl ?_
       refine Q0z (u:=.pointer (some ⟨w.heap.size,0,none⟩)) ?_ ((Q00 rfl).2 rfl)
       simp[go_sem,e2]
      refine ⟨fun A W hW hag hdep=>?_,?_⟩
      ·have e41:A.tmps[41]?.getD undef=.pointer (some ⟨w.heap.size,0,none⟩):=Q03 ((Q00 rfl).1 (hdep 0 (by decide)))
       refine Q01 rfl ?_
       obtain ⟨k0,_,_,_,_,_⟩:=(HQ2.out W hW).1
       refine Q0z (u:=.bool n1) ?_ ((Q00 rfl).2 rfl)
       simp[go_sem,e41,k0]
      refine ⟨fun A W hW hag hdep=>?_,?_⟩
      ·have e2:A.tmps[2]?.getD undef=.pointer (some ⟨w.heap.size,0,none⟩):=Q03 (hag.keep (t:=2) (by kernel_rfl) rfl)
       refine Q01 rfl ?_
       refine Q0z (u:=.pointer (some ⟨w.heap.size,1,none⟩)) ?_ ((Q00 rfl).2 rfl)
       simp[go_sem,e2]
      refine ⟨fun A W hW hag hdep=>?_,?_⟩
      ·have e43:A.tmps[43]?.getD undef=.pointer (some ⟨w.heap.size,1,none⟩):=Q03 ((Q00 rfl).1 (hdep 2 (by decide)))
       refine Q01 rfl ?_
       obtain ⟨_,k1,_,_,_,_⟩:=(HQ2.out W hW).1
       refine Q0z (u:=.int .i64 e1) ?_ ((Q00 rfl).2 rfl)
       simp[go_sem,e43,k1]
      refine ⟨fun A W hW hag hdep=>?_,?_⟩
      ·have e2:A.tmps[2]?.getD undef=.pointer (some ⟨w.heap.size,0,none⟩):=Q03 (hag.keep (t:=2) (by kernel_rfl) rfl)
       refine Q01 rfl ?_
       refine Q0z (u:=.pointer (some ⟨w.heap.size,2,none⟩)) ?_ ((Q00 rfl).2 rfl)
       simp[go_sem,e2]
      refine ⟨fun A W hW hag hdep=>?_,?_⟩
      ·have e45:A.tmps[45]?.getD undef=.pointer (some ⟨w.heap.size,2,none⟩):=Q03 ((Q00 rfl).1 (hdep 4 (by decide)))
       refine Q01 rfl ?_
       obtain ⟨_,_,k2,_,_,_⟩:=(HQ2.out W hW).1
       refine Q0z (u:=.slice a1 l1 c1) ?_ ((Q00 rfl).2 rfl)
       simp[go_sem,e45,k2]
      refine ⟨fun A W hW hag hdep=>?_,?_⟩
      ·have e5:A.tmps[5]?.getD undef=.slice a3 l3 c3:=Q03 (hag.keep (t:=5) (by kernel_rfl) rfl)
       refine Q01 rfl ?_
       refine Q0z (u:=.slice a3 l3 c3) ?_ ((Q00 rfl).2 rfl)
       simp[go_sem,e5]
      refine ⟨fun A W hW hag hdep=>?_,?_⟩
      ·have e46:A.tmps[46]?.getD undef=.slice a1 l1 c1:=Q03 ((Q00 rfl).1 (hdep 5 (by decide)))
       have e47:A.tmps[47]?.getD undef=.slice a3 l3 c3:=Q03 ((Q00 rfl).1 (hdep 6 (by decide)))
       refine Q01 rfl ?_
       refine Qf3 (f:=101) (args:= #[.slice a1 l1 c1,.slice a3 l3 c3]) (by simp[go_sem,e46,e47]) ((HAD.out W (HQ2.out W hW).2.1 (HQ2.out W hW).2.2.1).mono ?_)
       rintro e w2 ⟨a,n,c,rfl,hw,hb⟩
       exact ⟨_,rfl,hb,(Q06 rfl).2 ⟨a,n,c,rfl,hw⟩⟩
      refine ⟨fun A W hW hag hdep=>?_,?_⟩
      ·have e42:A.tmps[42]?.getD undef=.bool n1:=Q03 ((Q00 rfl).1 (hdep 1 (by decide)))
       have e44:A.tmps[44]?.getD undef=.int .i64 e1:=Q03 ((Q00 rfl).1 (hdep 3 (by decide)))
       refine Q01 rfl ?_
       obtain ⟨a,n,c,hv,hw⟩:=(Q06 rfl).1 (hdep 7 (by decide))
       have e48:=Q03 hv
       refine Q0z (u:=.agg #[.bool n1,.int .i64 e1,.slice a n c]) ?_ ((Q06 rfl).2 ⟨a,n,c,rfl,hw⟩)
       simp[go_sem,e42,e44,e48]
      refine ⟨fun A W hW hag hdep=>?_,?_⟩
      ·have e4:A.tmps[4]?.getD undef=.pointer (some ⟨(w.heap.size+2),0,none⟩):=Q03 (hag.keep (t:=4) (by kernel_rfl) rfl)
       refine Q01 rfl ?_
       obtain ⟨a,n,c,hv,hw⟩:=(Q06 rfl).1 (hdep 8 (by decide))
       have e49:=Q03 hv
       obtain ⟨⟨b9,e9,a9,n9,c9,hN⟩,hlt⟩:=hW.2.1
       have k0:=hN.c0
       have f0:=hN.f0
       have f1:=hN.f1
       have f2:=hN.f2
       have d1:=hN.d1 (.bool n1)
       have d2:=hN.d2 (.bool n1) (.int .i64 e1)
       refine Qck hW.2.1 hw (b:=n1) (e:=e1) rfl rfl ?_ (fun w' h=>(Q06 rfl).2 h)
       simp[go_sem,e4,e49,k0,f0,f1,f2,d1,d2]
      exact trivial
     intro vs W1 hW1 hvs
     obtain ⟨a,n,c,hN1,hlt1,hw1⟩:=(Q06 rfl).1 (hvs 9 (by decide))
     simp only[Q10,Act.put,List.setIfInBounds_toArray,List.set_cons_zero,List.set_cons_succ]
     have k0:=hN1.c0
     have k1:=hN1.c1
     have k2:=hN1.c2
     have HG:=Xh2 hw1 (HQ2.out W1 hW1).2.2.2
     clear hvs hW1 hw1 hN1
     go_wp2_with fail
     refine ⟨rfl,.agg #[.bool n1,.int .i64 e1,.slice a n c],by simp[results,go_sem,k0,k1,k2],n1,e1,a,n,c,_,rfl,(Xo0 HG),?_,hlo,by omega,?_,(Xe1 HG)⟩
     ·rw[Q7q,<-Qrj];exact (Xo0 HF)
     ·have h5:=(Xo1 HF) (val (2^64) L1+v2) (Nat.le_refl _)
      rw[(Xo0 HG).len] at h5
      exact h5
    ·have hn2:n2= !n1:=by cases n1 <;> cases n2 <;> simp_all
     subst hn2
     have hne:(n1== !n1)=false:=by cases n1 <;> rfl
     by_cases hcmp:v2<=val (2^64) L1
     ·go_wp2_with (first
       |(go_at_call_of 100 a2;refine HU.out.mono ?_;rintro r w3 ⟨a3,l3,c3,rfl,hW3,hb3⟩;have g0:=HP.out.b1.step hb3 (by have:=HP.out.lt;omega);have uc0:=g0.c0;have uc1:=g0.c1;have uc2:=g0.c2;have g1:=HP.out.b2.step hb3 (by have:=HP.out.lt;omega);have vc0:=g1.c0;have vc1:=g1.c1;have vc2:=g1.c2;have HE:=Xh2 hW3 hb3;clear g0 g1 hW3 hb3)
       |(go_at_call_of 102 a1;refine (Q8m a1 l1 c1 L1 a3 l3 c3 _ w3 (HP.out.w1.step (Below.next0 HP.out.bel (Xe1 HE))) (Xo0 HE) (by omega) (Xe3 HF)).mono ?_;rintro r w4 ⟨a4,l4,c4,ok,rfl,hok,hW4,hb4⟩;rw[Q0r (by decide),decide_eq_true hcmp] at hok;subst hok;have hW4:=hW4 rfl;rw[Q0r (by decide)] at hW4;
         have hlt3:=HP.out.lt;have hb34:=Below.next0 (Xe1 HE) hb4;have g0:=HP.out.b1.step hb34 (by omega);have uc0:=g0.c0;have uc1:=g0.c1;have uc2:=g0.c2;have g1:=HP.out.b2.step hb34 (by omega);have vc0:=g1.c0;have vc1:=g1.c1;have vc2:=g1.c2;have g2:=HP.out.br.step hb34 hlt3;have rc0:=g2.c0;have rc1:=g2.c1;have rc2:=g2.c2;have rf0:=g2.f0;have rf1:=g2.f1;have rf2:=g2.f2;have rd1:=g2.d1 (.bool n1);have rd2:=g2.d2 (.bool n1) (.int .i64 e1);have HG:=Xh4 hW4 g2 (Nat.lt_of_lt_of_le hlt3 hb34.size) (Below.next0 HP.out.bel hb34);clear g0 g1 g2 hW4 hb4 hb34))
      have hS:=(Xo1 HG).store (.bool n1) (.int .i64 e1) (.slice a4 l4 c4)
      have k0:=hS.c0
      have k1:=hS.c1
      have k2:=hS.c2
      have hbz:=Q04.below (Xe3 HG) (show w.heap.size<=w.heap.size+2 by omega) (.bool n1) (.int .i64 e1) (.slice a4 l4 c4)
      have hwz:WordsIn (((w4.setCell ⟨w.heap.size+2,0,none⟩ (.bool n1)).setCell ⟨w.heap.size+2,1,none⟩ (.int .i64 e1)).setCell ⟨w.heap.size+2,2,none⟩ (.slice a4 l4 c4)) a4 l4 c4 (dig (2^64) (val (2^64) L1-v2)):=⟨(Xo0 HG).len,(Xo0 HG).cap,(Xo0 HG).most,(Xo0 HG).low,((Xo0 HG).rd.store3 (Xo1 HG) (fun _=>by simp[nv]) (fun _=>by simp[nv]) (fun _=>by simp[nv]) _ _ _).more (Q14 _ _ _ _ _)⟩
      refine ⟨rfl,.agg #[.bool n1,.int .i64 e1,.slice a4 l4 c4],by simp[results,go_sem,k0,k1,k2],_,e1,a4,l4,c4,_,rfl,hwz,?_,hlo,by omega,?_,hbz⟩
      ·rw[Q7q,<-(Xo0 HF),Qf0,if_pos hcmp]
      ·have h5:=(Xo1 HF) (val (2^64) L1-v2) (by omega)
       rw[(Xo0 HG).len] at h5
       exact h5
     ·go_upto_if 57 with (first
       |(go_at_call_of 100 a2;refine HU.out.mono ?_;rintro r w3 ⟨a3,l3,c3,rfl,hW3,hb3⟩;have g0:=HP.out.b1.step hb3 (by have:=HP.out.lt;omega);have uc0:=g0.c0;have uc1:=g0.c1;have uc2:=g0.c2;have g1:=HP.out.b2.step hb3 (by have:=HP.out.lt;omega);have vc0:=g1.c0;have vc1:=g1.c1;have vc2:=g1.c2;have HE:=Xh2 hW3 hb3;clear g0 g1 hW3 hb3)
       |(go_at_call_of 102 a1;refine (Q8m a1 l1 c1 L1 a3 l3 c3 _ w3 (HP.out.w1.step (Below.next0 HP.out.bel (Xe1 HE))) (Xo0 HE) (by omega) (Xe3 HF)).mono ?_;rintro r w4 ⟨a4,l4,c4,ok,rfl,hok,hW4,hb4⟩;rw[Q0r (by decide),decide_eq_false hcmp] at hok;subst hok;clear hW4;
         have hb34:=Below.next0 (Xe1 HE) hb4;have g0:=HP.out.b1.step hb34 (by have:=HP.out.lt;omega);have uc0:=g0.c0;have uc1:=g0.c1;have uc2:=g0.c2;have HG1:=Xh2 ((Xo0 HE).step hb4) hb34;clear g0 hb4 hb34))
      go_wp2_with (go_at_call_of 102 a1;refine (Q8m a3 l3 c3 _ a1 l1 c1 L1 w4 (Xo0 HG1) (HP.out.w1.step (Below.next0 HP.out.bel (Xe1 HG1))) (by have h6:=(Xo0 HG1).len;omega) (by rw[Q0r (by decide)];exact (Xo2 HF))).mono ?_;rintro r w5 ⟨a5,l5,c5,ok,rfl,hok,hW5,hb5⟩;rw[Q0r (by decide),decide_eq_true (by omega)] at hok;subst hok;have hW5:=hW5 rfl;rw[Q0r (by decide)] at hW5;have hlt3:=HP.out.lt;have hb35:=Below.next0 (Xe1 HG1) hb5;have g0:=HP.out.b1.step hb35 (by omega);have uc0:=g0.c0;have uc1:=g0.c1;have uc2:=g0.c2;have g1:=HP.out.b2.step hb35 (by omega);have vc0:=g1.c0;have vc1:=g1.c1;have vc2:=g1.c2;have g2:=HP.out.br.step hb35 hlt3;have rc0:=g2.c0;have rc1:=g2.c1;have rc2:=g2.c2;have rf0:=g2.f0;have rf1:=g2.f1;have rf2:=g2.f2;have rd1:=g2.d1 (.bool (!n1));have rd2:=g2.d2 (.bool (!n1)) (.int .i64 e1);have HG:=Xh4 hW5 g2 (Nat.lt_of_lt_of_le hlt3 hb35.size) (Below.next0 HP.out.bel hb35);clear g0 g1 g2 hW5 hb5 hb35)
      have hS:=(Xo1 HG).store (.bool (!n1)) (.int .i64 e1) (.slice a5 l5 c5)
      have k0:=hS.c0
      have k1:=hS.c1
      have k2:=hS.c2
      have hbz:=Q04.below (Xe3 HG) (show w.heap.size<=w.heap.size+2 by omega) (.bool (!n1)) (.int .i64 e1) (.slice a5 l5 c5)
      have hwz:WordsIn (((w5.setCell ⟨w.heap.size+2,0,none⟩ (.bool (!n1))).setCell ⟨w.heap.size+2,1,none⟩ (.int .i64 e1)).setCell ⟨w.heap.size+2,2,none⟩ (.slice a5 l5 c5)) a5 l5 c5 (dig (2^64) (v2-val (2^64) L1)):=⟨(Xo0 HG).len,(Xo0 HG).cap,(Xo0 HG).most,(Xo0 HG).low,((Xo0 HG).rd.store3 (Xo1 HG) (fun _=>by simp[nv]) (fun _=>by simp[nv]) (fun _=>by simp[nv]) _ _ _).more (Q14 _ _ _ _ _)⟩
      refine ⟨rfl,.agg #[.bool (!n1),.int .i64 e1,.slice a5 l5 c5],by simp[results,go_sem,k0,k1,k2],_,e1,a5,l5,c5,_,rfl,hwz,?_,hlo,by omega,?_,hbz⟩
      ·rw[Q7q,<-(Xo0 HF),Qf0,if_neg hcmp]
      ·have h5:=(Xo1 HF) (v2-val (2^64) L1) (by omega)
       rw[(Xo0 HG).len] at h5
       exact h5
def Qon (w:World) (D:Dyadic) (r:Ending) (w':World):Prop:=∃n' e' a' l' c' L er,r=.returned (.tuple #[.agg #[.bool n',.int .i64 e',.slice a' l' c'],.int .i64 er])/\Qci D n' e' L er/\Q2g w w' a' l' c' L/\Below w.heap.size w w'
theorem Qrk (n:Bool) (e:Int) (a:Option Addr) (l c:Nat) (L:List Nat) (w:World) (h:WordsIn w a l c L) (hT:Q24 w) (hl:l<=100000) (he: -1000000000<=e) (he2:e<=1000000000):
 Calls Tryz.prog 232 #[.agg #[.bool n,.int .i64 e,.slice a l c]] w (Qon w (Q1q n e L)):=by
 have hs1:(w.alloc (.cells #[.bool n,.int .i64 e,.slice a l c] 41)).heap.size=w.heap.size+1:=World.size_alloc _ _
 have hb1:Below w.heap.size w (w.alloc (.cells #[.bool n,.int .i64 e,.slice a l c] 41)):=(Below.refl _ _).alloc (Nat.le_refl _) _
 have hb2:Below (w.alloc (.cells #[.bool n,.int .i64 e,.slice a l c] 41)).heap.size (w.alloc (.cells #[.bool n,.int .i64 e,.slice a l c] 41)) ((w.alloc (.cells #[.bool n,.int .i64 e,.slice a l c] 41)).alloc (.cells #[.bool false,.int .i64 0,.slice none 0 0] 41)):=(Below.refl _ _).alloc (Nat.le_refl _) _
 have hX:=(Q04.new w (.bool n) (.int .i64 e) (.slice a l c) 41).step hb2 (Q0f _ _)
 have hR:=Q04.new (w.alloc (.cells #[.bool n,.int .i64 e,.slice a l c] 41)) (.bool false) (.int .i64 0) (.slice none 0 0) 41
 have hsz:=Q0f (w.alloc (.cells #[.bool n,.int .i64 e,.slice a l c] 41)) (.cells #[.bool false,.int .i64 0,.slice none 0 0] 41)
 rw[hs1] at hR hsz
 have hB:=Below.next0 hb1 hb2
 generalize hW:(w.alloc (.cells #[.bool n,.int .i64 e,.slice a l c] 41)).alloc (.cells #[.bool false,.int .i64 0,.slice none 0 0] 41)=W at hX hR hB hsz
 have hx0:=hX.c0
 have hx1:=hX.c1
 have hx2:=hX.c2
 have hmk:=Q3r n a l c L e W (h.step hB) (hT.step hB) hl he he2
 have HR:=Xh4 hR hB hmk hsz
 clear hs1 hb1 hb2 hX hR hB hmk h hT hsz
 go_enter Tryz.func232,Tryz.ntmps232
 go_wp2_with (refine (Xo2 HR).mono ?_;rintro r w1 ⟨n',e',a',l',c',L',er,rfl,hmo,hW1,hb1⟩;have hR1:=(Xo0 HR).step hb1 (Xe3 HR);have rc0:=hR1.c0;have rc1:=hR1.c1;have rc2:=hR1.c2;have rf0:=hR1.f0;have rf1:=hR1.f1;have rf2:=hR1.f2;have rd1:=hR1.d1 (.bool n');have rd2:=hR1.d2 (.bool n') (.int .i64 e');have HM:=Xh4 hmo hW1 hR1 (Below.next0 (Xo1 HR) hb1);clear hmo hW1 hR1 hb1)
 have hS:=(Xo2 HM).store (.bool n') (.int .i64 e') (.slice a' l' c')
 have k0:=hS.c0
 have k1:=hS.c1
 have k2:=hS.c2
 have hbz:=Q04.below (Xe3 HM) (show w.heap.size<=w.heap.size+1 by omega) (.bool n') (.int .i64 e') (.slice a' l' c')
 have hw1:=(Xo1 HM)
 have hwz:WordsIn _ a' l' c' L':=⟨hw1.len,hw1.cap,hw1.most,hw1.low,(hw1.rd.store3 (Xo2 HM) (fun _=>by simp[nv]) (fun _=>by simp[nv]) (fun _=>by simp[nv]) (.bool n') (.int .i64 e') (.slice a' l' c')).more (Q14 _ _ _ _ _)⟩
 exact ⟨rfl,.tuple #[.agg #[.bool n',.int .i64 e',.slice a' l' c'],.int .i64 er],by simp[results,go_sem,k0,k1,k2],n',e',a',l',c',L',er,rfl,Q7o (Xo0 HM),(hw1.lower (Xo1 HR).size).on hwz,hbz⟩
theorem Qlm {v:Nat} (h:v<18446744073709551616):Q63 (dy (sgn false v) 0):=by
 by_cases h0:v=0
 ·subst h0;exact .inl rfl
 ·obtain ⟨z,hz⟩:=Qee h0
  have hz64:z<64:=by
   refine Nat.lt_of_not_le fun hle=>?_
   have h3:2^64<=2^z:=Nat.pow_le_pow_right (by decide) hle
   have h5:=hz.1
   rw[Nat.mod_eq_of_lt (Nat.lt_of_lt_of_le h h3)] at h5
   exact h0 h5
  have hb:v / 2^z<(2^64)^64:=Nat.lt_of_le_of_lt (Nat.div_le_self _ _) (Nat.lt_of_lt_of_le h (show 2^64<=(2^64)^64 from Nat.le_self_pow (by decide) _))
  rw[<-Qri hz,Q6m hz.2]
  exact ⟨hb,by omega,by omega⟩
theorem Q8p (v:Nat) (w:World) (hv:v<9223372036854775808) (hT:Q24 w):
 Calls Tryz.prog 20 #[.int .i64 (v:Int)] w fun r w'=>∃n' e' a' l' c' L,r=.returned (.agg #[.bool n',.int .i64 e',.slice a' l' c'])/\Q0h n' e' L/\Q1q n' e' L=dy (v:Int) 0/\Q2g w w' a' l' c' L/\Below w.heap.size w w':=by
 have hneg:¬(v:Int)<0:=by omega
 have hv2:(v:Int)<18446744073709551616:=by omega
 have hb0:∀o,Below w.heap.size w (w.alloc o):=fun o=>(Below.refl _ _).alloc (Nat.le_refl _) _
 have hs1:(w.alloc (.cells #[.bool false,.int .i64 0,.slice none 0 0] 41)).heap.size=w.heap.size+1:=World.size_alloc _ _
 have hwd:=Qof (w.alloc (.cells #[.bool false,.int .i64 0,.slice none 0 0] 41)) v (by omega) 74
 have hb2:Below (w.alloc (.cells #[.bool false,.int .i64 0,.slice none 0 0] 41)).heap.size (w.alloc (.cells #[.bool false,.int .i64 0,.slice none 0 0] 41)) ((w.alloc (.cells #[.bool false,.int .i64 0,.slice none 0 0] 41)).alloc (.cells #[.int .u64 (v:Int)] 74)):=(Below.refl _ _).alloc (Nat.le_refl _) _
 have hR:=(Q04.new w (.bool false) (.int .i64 0) (.slice none 0 0) 41).step hb2 (Q0f _ _)
 have hsz:=Nat.lt_of_lt_of_le (Q0f w (.cells #[.bool false,.int .i64 0,.slice none 0 0] 41)) hb2.size
 have hB:=Below.next0 (hb0 _) hb2
 rw[hs1] at hwd
 generalize hW:(w.alloc (.cells #[.bool false,.int .i64 0,.slice none 0 0] 41)).alloc (.cells #[.int .u64 (v:Int)] 74)=W at hwd hR hB hsz
 have hmk:=Q3r false (some ⟨w.heap.size+1,0,none⟩) 1 1 [v] 0 W hwd (hT.step hB) (by decide) (by decide) (by decide)
 have HR:=Xh4 hR hB hmk hsz
 clear hb0 hs1 hwd hb2 hR hsz hB hmk hT
 go_enter Tryz.func20,Tryz.ntmps20
 go_wp2_with (refine (Xo2 HR).mono ?_;rintro r w1 ⟨n',e',a',l',c',L',er,rfl,hmo,hW1,hb1⟩;have hal:Below w1.heap.size w1 (w1.alloc (.cells #[.bool n',.int .i64 e',.slice a' l' c'] 41)):=(Below.refl _ _).alloc (Nat.le_refl _) _;have hX:=Q04.new w1 (.bool n') (.int .i64 e') (.slice a' l' c') 41;have xc0:=hX.c0;have xc1:=hX.c1;have xc2:=hX.c2;have hR1:=((Xo0 HR).step hb1 (Xe3 HR)).step hal (Nat.lt_of_lt_of_le (Xe3 HR) hb1.size);have rc0:=hR1.c0;have rc1:=hR1.c1;have rc2:=hR1.c2;have rf0:=hR1.f0;have rf1:=hR1.f1;have rf2:=hR1.f2;have rd1:=hR1.d1 (.bool n');have rd2:=hR1.d2 (.bool n') (.int .i64 e');have HM:=Xh4 hmo (hW1.on (hW1.step hal)) hR1 (Below.next0 (Below.next0 (Xo1 HR) hb1) hal);clear hmo hW1 hR1 hb1 hal hX)
 have hS:=(Xo2 HM).store (.bool n') (.int .i64 e') (.slice a' l' c')
 have k0:=hS.c0
 have k1:=hS.c1
 have k2:=hS.c2
 have hbz:=Q04.below (Xe3 HM) (Nat.le_refl w.heap.size) (.bool n') (.int .i64 e') (.slice a' l' c')
 have hw1:=(Xo1 HM)
 have hwz:WordsIn _ a' l' c' L':=⟨hw1.len,hw1.cap,hw1.most,hw1.low,(hw1.rd.store3 (Xo2 HM) (fun _=>by simp[nv]) (fun _=>by simp[nv]) (fun _=>by simp[nv]) (.bool n') (.int .i64 e') (.slice a' l' c')).more (Q14 _ _ _ _ _)⟩
 have hfo:=Q7o (Xo0 HM)
 rw[Qtv] at hfo
 obtain ⟨_,_,hin,hnd⟩|⟨hno,_⟩:=hfo
 ·exact ⟨rfl,.agg #[.bool n',.int .i64 e',.slice a' l' c'],by simp[results,go_sem,k0,k1,k2],n',e',a',l',c',L',rfl,hin,hnd,(hw1.lower (Xo1 HR).size).on hwz,hbz⟩
 ·exact absurd (Qlm (by omega)) hno
theorem RdI.store1 {K:IntKind} {w:World} {B:Nat} {a:Option Addr} {ls:List Nat} (h:RdI K w B a ls) {p:Addr} {v:Value} (hp:w.cell? p=some v) (hv:∀x:Nat,v≠nv K x) (u:Value):RdI K (w.setCell p u) B a ls:=by
 rcases h with rfl|⟨g,o,rfl,hg,hc⟩
 ·exact .inl rfl
 ·refine .inr ⟨g,o,rfl,hg,fun j x hx=>?_⟩
  have h1:=hc j x hx
  rw[World.cell?_setCell_other _ _ _ _ (fun e=>?_)]
  ·exact h1
  ·rw[e] at hp
   rw[hp] at h1
   injection h1 with h1
   exact hv x h1
theorem WordsIn.set1 {w:World} {a:Option Addr} {n c:Nat} {L:List Nat} (h:WordsIn w a n c L) {p:Addr} {v:Value} (hp:w.cell? p=some v) (hv:∀x:Nat,v≠nv .u64 x) (u:Value):WordsIn (w.setCell p u) a n c L:=
 ⟨h.len,h.cap,h.most,h.low,(h.rd.store1 hp hv u).more (by rw[World.size_setCell];omega)⟩
theorem WordsIn.set3 {w:World} {a:Option Addr} {n c b:Nat} {L:List Nat} {b0:Bool} {e0:Int} {a0:Option Addr} {n0 c0:Nat} (h:WordsIn w a n c L) (hN:Q04 w b (.bool b0) (.int .i64 e0) (.slice a0 n0 c0)) (u0 u1 u2:Value):
 WordsIn (((w.setCell ⟨b,0,none⟩ u0).setCell ⟨b,1,none⟩ u1).setCell ⟨b,2,none⟩ u2) a n c L:=
 ⟨h.len,h.cap,h.most,h.low,(h.rd.store3 hN (fun _=>by simp[nv]) (fun _=>by simp[nv]) (fun _=>by simp[nv]) u0 u1 u2).more (Q14 _ _ _ _ _)⟩
theorem Qoo (n:Bool) (e:Int) (a:Option Addr) (l c:Nat) (L:List Nat) (w:World) (h:WordsIn w a l c L) (hi:Q0h n e L) (h0:L≠[]):
 Calls Tryz.prog 113 #[.agg #[.bool n,.int .i64 e,.slice a l c]] w fun r w'=>∃a' l' c',r=.returned (.agg #[.bool n,.int .i64 e,.slice a' l' c'])/\Q2g w w' a' l' c' L/\Below w.heap.size w w':=by
 have hs1:(w.alloc (.cells #[.bool n,.int .i64 e,.slice a l c] 41)).heap.size=w.heap.size+1:=World.size_alloc _ _
 have hb1:Below w.heap.size w (w.alloc (.cells #[.bool n,.int .i64 e,.slice a l c] 41)):=(Below.refl _ _).alloc (Nat.le_refl _) _
 have hb2:Below (w.alloc (.cells #[.bool n,.int .i64 e,.slice a l c] 41)).heap.size (w.alloc (.cells #[.bool n,.int .i64 e,.slice a l c] 41)) ((w.alloc (.cells #[.bool n,.int .i64 e,.slice a l c] 41)).alloc (.cells #[.bool false,.int .i64 0,.slice none 0 0] 41)):=(Below.refl _ _).alloc (Nat.le_refl _) _
 have hX:=(Q04.new w (.bool n) (.int .i64 e) (.slice a l c) 41).step hb2 (Q0f _ _)
 have hR:=Q04.new (w.alloc (.cells #[.bool n,.int .i64 e,.slice a l c] 41)) (.bool false) (.int .i64 0) (.slice none 0 0) 41
 have hsz:=Q0f (w.alloc (.cells #[.bool n,.int .i64 e,.slice a l c] 41)) (.cells #[.bool false,.int .i64 0,.slice none 0 0] 41)
 rw[hs1] at hR hsz
 have hB:=Below.next0 hb1 hb2
 generalize hW:(w.alloc (.cells #[.bool n,.int .i64 e,.slice a l c] 41)).alloc (.cells #[.bool false,.int .i64 0,.slice none 0 0] 41)=W at hX hR hB hsz
 obtain ⟨hv0,hdg,hlen64,he1,he2⟩:val (2^64) L≠0/\L=dig (2^64) (val (2^64) L)/\l<=64/\-65536<=e/\e<=65536:=by
  rcases Q2c hi h.low with ⟨h1,_⟩|⟨_,h2,h3,h4,h5,h6⟩
  ·exact absurd h1 h0
  ·refine ⟨by omega,h3,?_,h5,h6⟩
   rw[<-h.len,h3];exact Qdq h4
 have hrt:=Q28 n e a l c L W (h.step hB) (by omega) (by omega) (by omega)
 rw[decide_eq_true hi] at hrt
 have htr:∀W2,Below w.heap.size w W2->Calls Tryz.prog 150 #[.slice a l c] W2 fun r w'=>∃a' l' c',r=.returned (.slice a' l' c')/\Q2g W2 w' a' l' c' L/\Below W2.heap.size W2 w':=fun W2 hb=>(Qak a l c L W2 (h.step hb) (by omega) hv0).mono (by rintro r w' ⟨a',l',c',rfl,hw,hb'⟩;rw[<-hdg] at hw;exact ⟨a',l',c',rfl,hw,hb'⟩)
 have HR:=Xh6 hX hR hB hrt htr hsz
 have xc0:=hX.c0
 have xc1:=hX.c1
 have xc2:=hX.c2
 clear hs1 hb1 hb2 hX hR hB hrt htr hsz h hi h0 hv0 hdg
 go_enter Tryz.func113,Tryz.ntmps113
 go_wp2_with (first
  |(go_at_call_of 53 (Value.bool n);refine (Xo3 HR).mono ?_;rintro r w1 ⟨rfl,hb1⟩;have hX1:=(Xo0 HR).step hb1 (by have:=(Xe5 HR);omega);have uc0:=hX1.c0;have uc1:=hX1.c1;have uc2:=hX1.c2;have HA:=Xh2 hb1 (Below.next0 (Xo2 HR) hb1);clear hX1 hb1)
  |(go_at_call_of 150 a;refine ((Xo4 HR) w1 (Xe1 HA)).mono ?_;rintro r w2 ⟨a',l',c',rfl,hW2,hb2⟩;have hlt:=(Xe5 HR);have hb12:=Below.next0 (Xo0 HA) hb2;have hX2:=(Xo0 HR).step hb12 (by omega);have hR2:=(Xo1 HR).step hb12 hlt;
    have yc2:=hX2.c2;have yf2:=hX2.f2;have hX3:=hX2.set2 (.slice a' l' c');have hR3:=hR2.far (p:=⟨w.heap.size,2,none⟩) (by show w.heap.size≠w.heap.size+1;omega) (.slice a' l' c');have zc0:=hX3.c0;have zc1:=hX3.c1;have zc2:=hX3.c2;have rc0:=hR3.c0;have rc1:=hR3.c1;have rc2:=hR3.c2;have rf0:=hR3.f0;have rf1:=hR3.f1;have rf2:=hR3.f2;have rd1:=hR3.d1 (.bool n);have rd2:=hR3.d2 (.bool n) (.int .i64 e);
    have hW3:=WordsIn.set1 hW2.toWordsIn hX2.c2 (fun _=>by simp[nv]) (.slice a' l' c');
    have HM:=Xh3 ((hW2.lower (Xe1 HA).size).on hW3) hR3 ((Below.next0 (Xo2 HR) hb12).setCell (p:=⟨w.heap.size,2,none⟩) (Nat.le_refl _) (.slice a' l' c'));clear hX2 hR2 hX3 hR3 hW3 hb2 hb12))
 have hS:=(Xo1 HM).store (.bool n) (.int .i64 e) (.slice a' l' c')
 have k0:=hS.c0
 have k1:=hS.c1
 have k2:=hS.c2
 have hbz:=Q04.below (Xe2 HM) (show w.heap.size<=w.heap.size+1 by omega) (.bool n) (.int .i64 e) (.slice a' l' c')
 have hwz:=(Xo0 HM).set3 (Xo1 HM) (.bool n) (.int .i64 e) (.slice a' l' c')
 exact ⟨rfl,.agg #[.bool n,.int .i64 e,.slice a' l' c'],by simp[results,go_sem,k0,k1,k2],a',l',c',rfl,(Xo0 HM).on hwz,hbz⟩
theorem Qln (n:Bool) (e:Int) (a:Option Addr) (l c:Nat) (L:List Nat) (w:World) (h:WordsIn w a l c L) (hi:Q0h n e L) (h0:L≠[]):
 Calls Tryz.prog 68 #[.agg #[.bool n,.int .i64 e,.slice a l c]] w fun r w'=>∃a' l' c',r=.returned (.agg #[.bool false,.int .i64 e,.slice a' l' c'])/\Q2g w w' a' l' c' L/\Below w.heap.size w w':=by
 have hs1:(w.alloc (.cells #[.bool n,.int .i64 e,.slice a l c] 41)).heap.size=w.heap.size+1:=World.size_alloc _ _
 have hb1:Below w.heap.size w (w.alloc (.cells #[.bool n,.int .i64 e,.slice a l c] 41)):=(Below.refl _ _).alloc (Nat.le_refl _) _
 have hb2:Below (w.alloc (.cells #[.bool n,.int .i64 e,.slice a l c] 41)).heap.size (w.alloc (.cells #[.bool n,.int .i64 e,.slice a l c] 41)) ((w.alloc (.cells #[.bool n,.int .i64 e,.slice a l c] 41)).alloc (.cells #[.bool false,.int .i64 0,.slice none 0 0] 41)):=(Below.refl _ _).alloc (Nat.le_refl _) _
 have hX:=(Q04.new w (.bool n) (.int .i64 e) (.slice a l c) 41).step hb2 (Q0f _ _)
 have hR:=Q04.new (w.alloc (.cells #[.bool n,.int .i64 e,.slice a l c] 41)) (.bool false) (.int .i64 0) (.slice none 0 0) 41
 have hsz:=Q0f (w.alloc (.cells #[.bool n,.int .i64 e,.slice a l c] 41)) (.cells #[.bool false,.int .i64 0,.slice none 0 0] 41)
 rw[hs1] at hR hsz
 have hB:=Below.next0 hb1 hb2
 generalize hW:(w.alloc (.cells #[.bool n,.int .i64 e,.slice a l c] 41)).alloc (.cells #[.bool false,.int .i64 0,.slice none 0 0] 41)=W at hX hR hB hsz
 have how:=Qoo n e a l c L W (h.step hB) hi h0
 have HR:=Xh4 hR hB how hsz
 have xc0:=hX.c0
 have xc1:=hX.c1
 have xc2:=hX.c2
 clear hs1 hb1 hb2 hX hR hB how hsz h hi h0
 go_enter Tryz.func68,Tryz.ntmps68
 go_wp2_with (first
  |(go_at_call_of 113 (Value.bool n);refine (Xo2 HR).mono ?_;rintro r w1 ⟨a',l',c',rfl,hW1,hb1⟩;have HA:=Xh2 (hW1.lower (Xo1 HR).size) hb1;clear hW1 hb1)
  |(go_at_call_of 112 (Value.bool n);refine (Qez n e a' l' c' w1).mono ?_;rintro r w2 ⟨rfl,hb2⟩;have hlt:=(Xe3 HR);have hb12:=Below.next0 (Xe1 HA) hb2;have hR2:=(Xo0 HR).step hb12 hlt;have rc0:=hR2.c0;have rc1:=hR2.c1;have rc2:=hR2.c2;have rf0:=hR2.f0;have rf1:=hR2.f1;have rf2:=hR2.f2;have rd1:=hR2.d1 (.bool false);have rd2:=hR2.d2 (.bool false) (.int .i64 e);have HM:=Xh3 ((Xo0 HA).on ((Xo0 HA).step hb2)) hR2 (Below.next0 (Xo1 HR) hb12);clear hR2 hb2 hb12))
 have hS:=(Xo1 HM).store (.bool false) (.int .i64 e) (.slice a' l' c')
 have k0:=hS.c0
 have k1:=hS.c1
 have k2:=hS.c2
 have hbz:=Q04.below (Xe2 HM) (show w.heap.size<=w.heap.size+1 by omega) (.bool false) (.int .i64 e) (.slice a' l' c')
 have hwz:=(Xo0 HM).set3 (Xo1 HM) (.bool false) (.int .i64 e) (.slice a' l' c')
 exact ⟨rfl,.agg #[.bool false,.int .i64 e,.slice a' l' c'],by simp[results,go_sem,k0,k1,k2],a',l',c',rfl,(Xo0 HM).on hwz,hbz⟩
theorem Qlo (n:Bool) (e:Int) (a:Option Addr) (l c:Nat) (L:List Nat) (w:World) (h:WordsIn w a l c L) (hi:Q0h n e L) (h0:L≠[]):
 Calls Tryz.prog 168 #[.agg #[.bool n,.int .i64 e,.slice a l c]] w fun r w'=>∃a' l' c',r=.returned (.agg #[.bool (!n),.int .i64 e,.slice a' l' c'])/\Q2g w w' a' l' c' L/\Below w.heap.size w w':=by
 have hs1:(w.alloc (.cells #[.bool n,.int .i64 e,.slice a l c] 41)).heap.size=w.heap.size+1:=World.size_alloc _ _
 have hb1:Below w.heap.size w (w.alloc (.cells #[.bool n,.int .i64 e,.slice a l c] 41)):=(Below.refl _ _).alloc (Nat.le_refl _) _
 have hb2:Below (w.alloc (.cells #[.bool n,.int .i64 e,.slice a l c] 41)).heap.size (w.alloc (.cells #[.bool n,.int .i64 e,.slice a l c] 41)) ((w.alloc (.cells #[.bool n,.int .i64 e,.slice a l c] 41)).alloc (.cells #[.bool false,.int .i64 0,.slice none 0 0] 41)):=(Below.refl _ _).alloc (Nat.le_refl _) _
 have hX:=(Q04.new w (.bool n) (.int .i64 e) (.slice a l c) 41).step hb2 (Q0f _ _)
 have hR:=Q04.new (w.alloc (.cells #[.bool n,.int .i64 e,.slice a l c] 41)) (.bool false) (.int .i64 0) (.slice none 0 0) 41
 have hsz:=Q0f (w.alloc (.cells #[.bool n,.int .i64 e,.slice a l c] 41)) (.cells #[.bool false,.int .i64 0,.slice none 0 0] 41)
 rw[hs1] at hR hsz
 have hB:=Below.next0 hb1 hb2
 generalize hW:(w.alloc (.cells #[.bool n,.int .i64 e,.slice a l c] 41)).alloc (.cells #[.bool false,.int .i64 0,.slice none 0 0] 41)=W at hX hR hB hsz
 have how:=Qoo n e a l c L W (h.step hB) hi h0
 have hLl:0<L.length:=by
  cases L with
  |nil=>exact absurd rfl h0
  |cons x r=>simp
 have HR:=Xh6 hX hR hB how hsz hLl
 have xc0:=hX.c0
 have xc1:=hX.c1
 have xc2:=hX.c2
 clear hs1 hb1 hb2 hX hR hB how hsz h hi h0 hLl
 cases n
 ·go_enter Tryz.func168,Tryz.ntmps168
  go_upto_region 2 with (go_at_call_of 113 a;refine (Xo3 HR).mono ?_;rintro r w1 ⟨a',l',c',rfl,hW1,hb1⟩;have hX1:=(Xo0 HR).step hb1 (by have:=(Xo4 HR);omega);have yc0:=hX1.c0;have yc1:=hX1.c1;have yc2:=hX1.c2;have yf0:=hX1.f0;have yf1:=hX1.f1;have yf2:=hX1.f2;have yd1:=hX1.d1 (.bool false);have yd2:=hX1.d2 (.bool false) (.int .i64 e);have HA:=Xh3 hX1 (hW1.lower (Xo2 HR).size) hb1;clear hX1 hW1 hb1)
  have hln:0<l':=by have h3:=(Xo1 HA).len;have h4:=(Xe5 HR);omega
  have hl':decide (0<l')=true:=decide_eq_true hln
  have hX2:=(Xo0 HA).store (.bool false) (.int .i64 e) (.slice a' l' c')
  have hR2:=((Xo1 HR).step (Xe2 HA) (Xo4 HR)).far3 (show w.heap.size≠w.heap.size+1 by omega) (.bool false) (.int .i64 e) (.slice a' l' c')
  have hW2:=(Xo1 HA).set3 (Xo0 HA) (.bool false) (.int .i64 e) (.slice a' l' c')
  have hb2:=Q04.below (Below.next0 (Xo2 HR) (Xe2 HA)) (Nat.le_refl _) (.bool false) (.int .i64 e) (.slice a' l' c')
  clear yc0 yc1 yc2 yf0 yf1 yf2 yd1 yd2
  generalize ((w1.setCell ⟨w.heap.size,0,none⟩ (.bool false)).setCell ⟨w.heap.size,1,none⟩ (.int .i64 e)).setCell ⟨w.heap.size,2,none⟩ (.slice a' l' c')=W2 at hX2 hR2 hW2 hb2⊢
  have zc0:=hX2.c0
  have zc1:=hX2.c1
  have zc2:=hX2.c2
  have zf0:=hX2.f0
  have zf1:=hX2.f1
  have zf2:=hX2.f2
  have hX3:=hX2.set0 (.bool true)
  have hR3:=hR2.far (p:=⟨w.heap.size,0,none⟩) (show w.heap.size≠w.heap.size+1 by omega) (.bool true)
  have hW3:=hW2.set1 (p:=⟨w.heap.size,0,none⟩) hX2.c0 (fun _=>by simp[nv]) (.bool true)
  have vc0:=hX3.c0
  have vc1:=hX3.c1
  have vc2:=hX3.c2
  have rc0:=hR3.c0
  have rc1:=hR3.c1
  have rc2:=hR3.c2
  have rf0:=hR3.f0
  have rf1:=hR3.f1
  have rf2:=hR3.f2
  have rd1:=hR3.d1 (.bool true)
  have rd2:=hR3.d2 (.bool true) (.int .i64 e)
  have HM:=Xh3 ((Xo1 HA).on hW3) hR3 (hb2.setCell (p:=⟨w.heap.size,0,none⟩) (Nat.le_refl _) (.bool true))
  clear hX2 hR2 hX3 hR3 hW2 hW3 hb2
  go_wp2_with fail
  have hS:=(Xo1 HM).store (.bool true) (.int .i64 e) (.slice a' l' c')
  have k0:=hS.c0
  have k1:=hS.c1
  have k2:=hS.c2
  have hbz:=Q04.below (Xe2 HM) (show w.heap.size<=w.heap.size+1 by omega) (.bool true) (.int .i64 e) (.slice a' l' c')
  have hwz:=(Xo0 HM).set3 (Xo1 HM) (.bool true) (.int .i64 e) (.slice a' l' c')
  exact ⟨rfl,.agg #[.bool true,.int .i64 e,.slice a' l' c'],by simp[results,go_sem,k0,k1,k2],a',l',c',rfl,(Xo0 HM).on hwz,hbz⟩
 ·go_enter Tryz.func168,Tryz.ntmps168
  go_upto_region 2 with (go_at_call_of 113 a;refine (Xo3 HR).mono ?_;rintro r w1 ⟨a',l',c',rfl,hW1,hb1⟩;have hX1:=(Xo0 HR).step hb1 (by have:=(Xo4 HR);omega);have yc0:=hX1.c0;have yc1:=hX1.c1;have yc2:=hX1.c2;have yf0:=hX1.f0;have yf1:=hX1.f1;have yf2:=hX1.f2;have yd1:=hX1.d1 (.bool true);have yd2:=hX1.d2 (.bool true) (.int .i64 e);have HA:=Xh3 hX1 (hW1.lower (Xo2 HR).size) hb1;clear hX1 hW1 hb1)
  have hln:0<l':=by have h3:=(Xo1 HA).len;have h4:=(Xe5 HR);omega
  have hl':decide (0<l')=true:=decide_eq_true hln
  have hX2:=(Xo0 HA).store (.bool true) (.int .i64 e) (.slice a' l' c')
  have hR2:=((Xo1 HR).step (Xe2 HA) (Xo4 HR)).far3 (show w.heap.size≠w.heap.size+1 by omega) (.bool true) (.int .i64 e) (.slice a' l' c')
  have hW2:=(Xo1 HA).set3 (Xo0 HA) (.bool true) (.int .i64 e) (.slice a' l' c')
  have hb2:=Q04.below (Below.next0 (Xo2 HR) (Xe2 HA)) (Nat.le_refl _) (.bool true) (.int .i64 e) (.slice a' l' c')
  clear yc0 yc1 yc2 yf0 yf1 yf2 yd1 yd2
  generalize ((w1.setCell ⟨w.heap.size,0,none⟩ (.bool true)).setCell ⟨w.heap.size,1,none⟩ (.int .i64 e)).setCell ⟨w.heap.size,2,none⟩ (.slice a' l' c')=W2 at hX2 hR2 hW2 hb2⊢
  have zc0:=hX2.c0
  have zc1:=hX2.c1
  have zc2:=hX2.c2
  have zf0:=hX2.f0
  have zf1:=hX2.f1
  have zf2:=hX2.f2
  have hX3:=hX2.set0 (.bool false)
  have hR3:=hR2.far (p:=⟨w.heap.size,0,none⟩) (show w.heap.size≠w.heap.size+1 by omega) (.bool false)
  have hW3:=hW2.set1 (p:=⟨w.heap.size,0,none⟩) hX2.c0 (fun _=>by simp[nv]) (.bool false)
  have vc0:=hX3.c0
  have vc1:=hX3.c1
  have vc2:=hX3.c2
  have rc0:=hR3.c0
  have rc1:=hR3.c1
  have rc2:=hR3.c2
  have rf0:=hR3.f0
  have rf1:=hR3.f1
  have rf2:=hR3.f2
  have rd1:=hR3.d1 (.bool false)
  have rd2:=hR3.d2 (.bool false) (.int .i64 e)
  have HM:=Xh3 ((Xo1 HA).on hW3) hR3 (hb2.setCell (p:=⟨w.heap.size,0,none⟩) (Nat.le_refl _) (.bool false))
  clear hX2 hR2 hX3 hR3 hW2 hW3 hb2
  go_wp2_with fail
  have hS:=(Xo1 HM).store (.bool false) (.int .i64 e) (.slice a' l' c')
  have k0:=hS.c0
  have k1:=hS.c1
  have k2:=hS.c2
  have hbz:=Q04.below (Xe2 HM) (show w.heap.size<=w.heap.size+1 by omega) (.bool false) (.int .i64 e) (.slice a' l' c')
  have hwz:=(Xo0 HM).set3 (Xo1 HM) (.bool false) (.int .i64 e) (.slice a' l' c')
  exact ⟨rfl,.agg #[.bool false,.int .i64 e,.slice a' l' c'],by simp[results,go_sem,k0,k1,k2],a',l',c',rfl,(Xo0 HM).on hwz,hbz⟩
end Go.Proofs.YtdilmfakkppgpaaGreatDoor
