/- Part 11 of the proof of LawParseMeans: NumF, PolyM, PolyM2, ParseM. Condition: as each theorem says; none at the end. -/
import Derived.Test.YtdilmfakkppgpaaGreatDoorPkParseMeans10
set_option maxRecDepth 100000
set_option maxHeartbeats 16000000
namespace Go.Proofs.YtdilmfakkppgpaaGreatDoor
open Go.RowKit WordsM
theorem Qi8 {A B:List Nat} (hA:Low (2^64) A) (hB:Low (2^64) B):(dig (2^64) (val (2^64) A*val (2^64) B)).length<=A.length+B.length:=by
 have h1:=Q2o (B:=2^64) (by decide) A hA
 have h2:=Q2o (B:=2^64) (by decide) B hB
 refine Q23 (by decide) ?_
 rw[Nat.pow_add]
 exact Nat.mul_lt_mul'' h1 h2
theorem Q3d {n:Bool} {e:Int} {L:List Nat} (h:Q0h n e L) (hl:Low (2^64) L):L.length<=64/\-65536<=e/\e<=65536:=by
 rcases Q2c h hl with ⟨rfl,_,rfl⟩|⟨_,_,h2,h3,h4,h5⟩
 ·simp
 ·exact ⟨by rw[h2];exact Qdq h3,h4,h5⟩
theorem Qop (nx ny:Bool) (ex ey:Int) (ls ks:List Nat):Q1q (nx != ny) (ex+ey) (dig (2^64) (val (2^64) ls*val (2^64) ks))=Q1q nx ex ls*Q1q ny ey ks:=by
 rw[Q7q]
 unfold Q1q
 rw[Qjv,Qi5]
theorem Qi9 (nx:Bool) (ex:Int) (ax:Option Addr) (lx cx:Nat) (ls:List Nat) (ny:Bool) (ey:Int) (ay:Option Addr) (ly cy:Nat) (ks:List Nat) (w:World) (h1:WordsIn w ax lx cx ls) (h2:WordsIn w ay ly cy ks) (i1:Q0h nx ex ls) (i2:Q0h ny ey ks) (hT:Q24 w):
 Calls Tryz.prog 226 #[.agg #[.bool nx,.int .i64 ex,.slice ax lx cx],.agg #[.bool ny,.int .i64 ey,.slice ay ly cy],.func (.func 54) #[] #[]] w (Qon w (Q1q nx ex ls*Q1q ny ey ks)):=by
 have hs1:(w.alloc (.cells #[.bool nx,.int .i64 ex,.slice ax lx cx] 41)).heap.size=w.heap.size+1:=World.size_alloc _ _
 have hs2:((w.alloc (.cells #[.bool nx,.int .i64 ex,.slice ax lx cx] 41)).alloc (.cells #[.bool ny,.int .i64 ey,.slice ay ly cy] 41)).heap.size=w.heap.size+2:=by rw[World.size_alloc,hs1]
 have hs3:(((w.alloc (.cells #[.bool nx,.int .i64 ex,.slice ax lx cx] 41)).alloc (.cells #[.bool ny,.int .i64 ey,.slice ay ly cy] 41)).alloc (.cells #[.bool false,.int .i64 0,.slice none 0 0] 41)).heap.size=w.heap.size+3:=by rw[World.size_alloc,hs2]
 have hb1:Below w.heap.size w (w.alloc (.cells #[.bool nx,.int .i64 ex,.slice ax lx cx] 41)):=(Below.refl _ _).alloc (Nat.le_refl _) _
 have hb2:Below (w.alloc (.cells #[.bool nx,.int .i64 ex,.slice ax lx cx] 41)).heap.size (w.alloc (.cells #[.bool nx,.int .i64 ex,.slice ax lx cx] 41)) ((w.alloc (.cells #[.bool nx,.int .i64 ex,.slice ax lx cx] 41)).alloc (.cells #[.bool ny,.int .i64 ey,.slice ay ly cy] 41)):=(Below.refl _ _).alloc (Nat.le_refl _) _
 have hb3:Below ((w.alloc (.cells #[.bool nx,.int .i64 ex,.slice ax lx cx] 41)).alloc (.cells #[.bool ny,.int .i64 ey,.slice ay ly cy] 41)).heap.size ((w.alloc (.cells #[.bool nx,.int .i64 ex,.slice ax lx cx] 41)).alloc (.cells #[.bool ny,.int .i64 ey,.slice ay ly cy] 41)) (((w.alloc (.cells #[.bool nx,.int .i64 ex,.slice ax lx cx] 41)).alloc (.cells #[.bool ny,.int .i64 ey,.slice ay ly cy] 41)).alloc (.cells #[.bool false,.int .i64 0,.slice none 0 0] 41)):=(Below.refl _ _).alloc (Nat.le_refl _) _
 have hX:Q04 (((w.alloc (.cells #[.bool nx,.int .i64 ex,.slice ax lx cx] 41)).alloc (.cells #[.bool ny,.int .i64 ey,.slice ay ly cy] 41)).alloc (.cells #[.bool false,.int .i64 0,.slice none 0 0] 41)) w.heap.size (.bool nx) (.int .i64 ex) (.slice ax lx cx):=((Q04.new w _ _ _ _).step hb2 (Q0f _ _)).step hb3 (by rw[hs2];omega)
 have hY:Q04 (((w.alloc (.cells #[.bool nx,.int .i64 ex,.slice ax lx cx] 41)).alloc (.cells #[.bool ny,.int .i64 ey,.slice ay ly cy] 41)).alloc (.cells #[.bool false,.int .i64 0,.slice none 0 0] 41)) (w.heap.size+1) (.bool ny) (.int .i64 ey) (.slice ay ly cy):=by
  have h:=(Q04.new (w.alloc (.cells #[.bool nx,.int .i64 ex,.slice ax lx cx] 41)) (.bool ny) (.int .i64 ey) (.slice ay ly cy) 41).step hb3 (Q0f _ _)
  rwa[hs1] at h
 have hR:Q04 (((w.alloc (.cells #[.bool nx,.int .i64 ex,.slice ax lx cx] 41)).alloc (.cells #[.bool ny,.int .i64 ey,.slice ay ly cy] 41)).alloc (.cells #[.bool false,.int .i64 0,.slice none 0 0] 41)) (w.heap.size+2) (.bool false) (.int .i64 0) (.slice none 0 0):=by
  have h:=Q04.new ((w.alloc (.cells #[.bool nx,.int .i64 ex,.slice ax lx cx] 41)).alloc (.cells #[.bool ny,.int .i64 ey,.slice ay ly cy] 41)) (.bool false) (.int .i64 0) (.slice none 0 0) 41
  rwa[hs2] at h
 have hB:Below w.heap.size w (((w.alloc (.cells #[.bool nx,.int .i64 ex,.slice ax lx cx] 41)).alloc (.cells #[.bool ny,.int .i64 ey,.slice ay ly cy] 41)).alloc (.cells #[.bool false,.int .i64 0,.slice none 0 0] 41)):=Below.next0 (Below.next0 hb1 hb2) hb3
 generalize hW0:(((w.alloc (.cells #[.bool nx,.int .i64 ex,.slice ax lx cx] 41)).alloc (.cells #[.bool ny,.int .i64 ey,.slice ay ly cy] 41)).alloc (.cells #[.bool false,.int .i64 0,.slice none 0 0] 41))=W0 at hs3 hX hY hR hB
 have hQ:∀W,Below W0.heap.size W0 W->Q04 W w.heap.size (.bool nx) (.int .i64 ex) (.slice ax lx cx)/\Q04 W (w.heap.size+1) (.bool ny) (.int .i64 ey) (.slice ay ly cy)/\Q04 W (w.heap.size+2) (.bool false) (.int .i64 0) (.slice none 0 0)/\w.heap.size+2<W.heap.size/\Below w.heap.size w W:=fun W hb=>
  ⟨hX.step hb (by omega),hY.step hb (by omega),hR.step hb (by omega),Nat.lt_of_lt_of_le (by omega) hb.size,Below.next0 hB hb⟩
 obtain ⟨hx0,hx1,hx2,_,_,_⟩:=hX
 obtain ⟨hy0,hy1,hy2,_,_,_⟩:=hY
 have HQ:=Lib.hid hQ
 have hlx:=h1.len
 have hly:=h2.len
 obtain ⟨b1,b2,b3⟩:=Q3d i1 h1.low
 obtain ⟨b4,b5,b6⟩:=Q3d i2 h2.low
 have hr1:=Q28 nx ex ax lx cx ls W0 (h1.step hB) (by omega) (by omega) (by omega)
 have hr2:=fun W (hb:Below w.heap.size w W)=>Q28 ny ey ay ly cy ks W (h2.step hb) (by omega) (by omega) (by omega)
 rw[decide_eq_true i1] at hr1
 simp only[decide_eq_true i2] at hr2
 have hml:=fun W (hb:Below w.heap.size w W)=>Q9b nx ex ax lx cx ls ny ey ay ly cy ks W (h1.step hb) (h2.step hb) (by omega) (by omega) (by omega) (by omega) (by omega) (by omega)
 have hmd:=Qi8 h1.low h2.low
 have HC:=Xh5 hr1 hr2 hml hmd hT
 clear hs1 hs2 hs3 hb1 hb2 hb3 hR hQ hr1 hr2 hml hmd hT h1 h2 i1 i2
 go_enter Tryz.func226,Tryz.ntmps226
 go_wp2_with (first
  |(go_at_call_of 53 ax;refine (Xo0 HC).mono ?_;rintro r w1 ⟨rfl,hb1⟩;obtain ⟨g0,g1,g2,g3,g4⟩:=HQ.out w1 hb1;have uc0:=g0.c0;have uc1:=g0.c1;have uc2:=g0.c2;have vc0:=g1.c0;have vc1:=g1.c1;have vc2:=g1.c2;have HA:=Xh2 hb1 g4;clear g0 g1 g2 g3 g4 hb1)
  |(go_at_call_of 53 ay;refine ((Xo1 HC) w1 (Xe1 HA)).mono ?_;rintro r w2 ⟨rfl,hb2⟩;have hb12:=Below.next0 (Xo0 HA) hb2;obtain ⟨g0,g1,g2,g3,g4⟩:=HQ.out w2 hb12;have pc0:=g0.c0;have pc1:=g0.c1;have pc2:=g0.c2;have qc0:=g1.c0;have qc1:=g1.c1;have qc2:=g1.c2;have HE:=Xh2 hb12 g4;clear g0 g1 g2 g3 g4 hb2 hb12)
  |(go_at_call_of 54 ax;refine ((Xo2 HC) w2 (Xe1 HE)).mono ?_;rintro r w3 ⟨a3,l3,c3,rfl,hW3,hb3⟩;have HF:=Xh3 hW3 (Below.next0 (Xo0 HE) hb3) (Below.next0 (Xe1 HE) hb3);clear hW3 hb3)
  |(go_at_call_of 232 (Value.bool (nx != ny));refine (Qrk (nx != ny) (ex+ey) a3 l3 c3 _ w3 (Xo0 HF) ((Xe4 HC).step (Xe2 HF)) (by have:=(Xo0 HF).len;have:=(Xo3 HC);omega) (by omega) (by omega)).mono ?_;rintro r w4 ⟨n',e',a',l',c',L',er,rfl,hfo,hW4,hb4⟩;rw[Qop] at hfo;have hb14:=Below.next0 (Xo1 HF) hb4;obtain ⟨g0,g1,g2,g3,g4⟩:=HQ.out w4 hb14;have rc0:=g2.c0;have rc1:=g2.c1;have rc2:=g2.c2;have rf0:=g2.f0;have rf1:=g2.f1;have rf2:=g2.f2;have rd1:=g2.d1 (.bool n');have rd2:=g2.d2 (.bool n') (.int .i64 e');have HM:=Xh4 hfo (hW4.lower (Xe2 HF).size) g2 g4;clear g0 g1 g2 g3 g4 hfo hW4 hb4 hb14))
 have hS:=(Xo2 HM).store (.bool n') (.int .i64 e') (.slice a' l' c')
 have k0:=hS.c0
 have k1:=hS.c1
 have k2:=hS.c2
 have hbz:=Q04.below (Xe3 HM) (show w.heap.size<=w.heap.size+2 by omega) (.bool n') (.int .i64 e') (.slice a' l' c')
 have hwz:=(Xo1 HM).set3 (Xo2 HM) (.bool n') (.int .i64 e') (.slice a' l' c')
 exact ⟨rfl,.tuple #[.agg #[.bool n',.int .i64 e',.slice a' l' c'],.int .i64 er],by simp[results,go_sem,k0,k1,k2],n',e',a',l',c',L',er,rfl,(Xo0 HM),(Xo1 HM).on hwz,hbz⟩
theorem Qlp (nx:Bool) (ex:Int) (ax:Option Addr) (lx cx:Nat) (ls:List Nat) (ny:Bool) (ey:Int) (ay:Option Addr) (ly cy:Nat) (ks:List Nat) (w:World) (h1:WordsIn w ax lx cx ls) (h2:WordsIn w ay ly cy ks) (i1:Q0h nx ex ls) (i2:Q0h ny ey ks) (hT:Q24 w):
 Calls Tryz.prog 203 #[.agg #[.bool nx,.int .i64 ex,.slice ax lx cx],.agg #[.bool ny,.int .i64 ey,.slice ay ly cy]] w (Qon w (Q1q nx ex ls*Q1q ny ey ks)):=by
 have hs1:(w.alloc (.cells #[.bool nx,.int .i64 ex,.slice ax lx cx] 41)).heap.size=w.heap.size+1:=World.size_alloc _ _
 have hs2:((w.alloc (.cells #[.bool nx,.int .i64 ex,.slice ax lx cx] 41)).alloc (.cells #[.bool ny,.int .i64 ey,.slice ay ly cy] 41)).heap.size=w.heap.size+2:=by rw[World.size_alloc,hs1]
 have hs3:(((w.alloc (.cells #[.bool nx,.int .i64 ex,.slice ax lx cx] 41)).alloc (.cells #[.bool ny,.int .i64 ey,.slice ay ly cy] 41)).alloc (.cells #[.bool false,.int .i64 0,.slice none 0 0] 41)).heap.size=w.heap.size+3:=by rw[World.size_alloc,hs2]
 have hb1:Below w.heap.size w (w.alloc (.cells #[.bool nx,.int .i64 ex,.slice ax lx cx] 41)):=(Below.refl _ _).alloc (Nat.le_refl _) _
 have hb2:Below (w.alloc (.cells #[.bool nx,.int .i64 ex,.slice ax lx cx] 41)).heap.size (w.alloc (.cells #[.bool nx,.int .i64 ex,.slice ax lx cx] 41)) ((w.alloc (.cells #[.bool nx,.int .i64 ex,.slice ax lx cx] 41)).alloc (.cells #[.bool ny,.int .i64 ey,.slice ay ly cy] 41)):=(Below.refl _ _).alloc (Nat.le_refl _) _
 have hb3:Below ((w.alloc (.cells #[.bool nx,.int .i64 ex,.slice ax lx cx] 41)).alloc (.cells #[.bool ny,.int .i64 ey,.slice ay ly cy] 41)).heap.size ((w.alloc (.cells #[.bool nx,.int .i64 ex,.slice ax lx cx] 41)).alloc (.cells #[.bool ny,.int .i64 ey,.slice ay ly cy] 41)) (((w.alloc (.cells #[.bool nx,.int .i64 ex,.slice ax lx cx] 41)).alloc (.cells #[.bool ny,.int .i64 ey,.slice ay ly cy] 41)).alloc (.cells #[.bool false,.int .i64 0,.slice none 0 0] 41)):=(Below.refl _ _).alloc (Nat.le_refl _) _
 have hX:Q04 (((w.alloc (.cells #[.bool nx,.int .i64 ex,.slice ax lx cx] 41)).alloc (.cells #[.bool ny,.int .i64 ey,.slice ay ly cy] 41)).alloc (.cells #[.bool false,.int .i64 0,.slice none 0 0] 41)) w.heap.size (.bool nx) (.int .i64 ex) (.slice ax lx cx):=((Q04.new w _ _ _ _).step hb2 (Q0f _ _)).step hb3 (by rw[hs2];omega)
 have hY:Q04 (((w.alloc (.cells #[.bool nx,.int .i64 ex,.slice ax lx cx] 41)).alloc (.cells #[.bool ny,.int .i64 ey,.slice ay ly cy] 41)).alloc (.cells #[.bool false,.int .i64 0,.slice none 0 0] 41)) (w.heap.size+1) (.bool ny) (.int .i64 ey) (.slice ay ly cy):=by
  have h:=(Q04.new (w.alloc (.cells #[.bool nx,.int .i64 ex,.slice ax lx cx] 41)) (.bool ny) (.int .i64 ey) (.slice ay ly cy) 41).step hb3 (Q0f _ _)
  rwa[hs1] at h
 have hR:Q04 (((w.alloc (.cells #[.bool nx,.int .i64 ex,.slice ax lx cx] 41)).alloc (.cells #[.bool ny,.int .i64 ey,.slice ay ly cy] 41)).alloc (.cells #[.bool false,.int .i64 0,.slice none 0 0] 41)) (w.heap.size+2) (.bool false) (.int .i64 0) (.slice none 0 0):=by
  have h:=Q04.new ((w.alloc (.cells #[.bool nx,.int .i64 ex,.slice ax lx cx] 41)).alloc (.cells #[.bool ny,.int .i64 ey,.slice ay ly cy] 41)) (.bool false) (.int .i64 0) (.slice none 0 0) 41
  rwa[hs2] at h
 have hB:Below w.heap.size w (((w.alloc (.cells #[.bool nx,.int .i64 ex,.slice ax lx cx] 41)).alloc (.cells #[.bool ny,.int .i64 ey,.slice ay ly cy] 41)).alloc (.cells #[.bool false,.int .i64 0,.slice none 0 0] 41)):=Below.next0 (Below.next0 hb1 hb2) hb3
 generalize hW0:(((w.alloc (.cells #[.bool nx,.int .i64 ex,.slice ax lx cx] 41)).alloc (.cells #[.bool ny,.int .i64 ey,.slice ay ly cy] 41)).alloc (.cells #[.bool false,.int .i64 0,.slice none 0 0] 41))=W0 at hs3 hX hY hR hB
 have hQ:∀W,Below W0.heap.size W0 W->Q04 W w.heap.size (.bool nx) (.int .i64 ex) (.slice ax lx cx)/\Q04 W (w.heap.size+1) (.bool ny) (.int .i64 ey) (.slice ay ly cy)/\Q04 W (w.heap.size+2) (.bool false) (.int .i64 0) (.slice none 0 0)/\w.heap.size+2<W.heap.size/\Below w.heap.size w W:=fun W hb=>
  ⟨hX.step hb (by omega),hY.step hb (by omega),hR.step hb (by omega),Nat.lt_of_lt_of_le (by omega) hb.size,Below.next0 hB hb⟩
 obtain ⟨hx0,hx1,hx2,_,_,_⟩:=hX
 obtain ⟨hy0,hy1,hy2,_,_,_⟩:=hY
 have HQ:=Lib.hid hQ
 have hbt:=Qi9 nx ex ax lx cx ls ny ey ay ly cy ks W0 (h1.step hB) (h2.step hB) i1 i2 (hT.step hB)
 have HC:=Lib.hid hbt
 clear hs1 hs2 hs3 hb1 hb2 hb3 hR hQ hbt hT h1 h2 i1 i2
 go_enter Tryz.func203,Tryz.ntmps203
 go_wp2_with (go_at_call_of 226 ax;refine HC.out.mono ?_;rintro r w1 ⟨n',e',a',l',c',L',er,rfl,hfo,hW1,hb1⟩;obtain ⟨g0,g1,g2,g3,g4⟩:=HQ.out w1 hb1;have rc0:=g2.c0;have rc1:=g2.c1;have rc2:=g2.c2;have rf0:=g2.f0;have rf1:=g2.f1;have rf2:=g2.f2;have rd1:=g2.d1 (.bool n');have rd2:=g2.d2 (.bool n') (.int .i64 e');have HM:=Xh4 hfo (hW1.lower (HQ.out W0 (Below.refl _ _)).2.2.2.2.size) g2 g4;clear g0 g1 g2 g3 g4 hfo hW1 hb1)
 have hS:=(Xo2 HM).store (.bool n') (.int .i64 e') (.slice a' l' c')
 have k0:=hS.c0
 have k1:=hS.c1
 have k2:=hS.c2
 have hbz:=Q04.below (Xe3 HM) (show w.heap.size<=w.heap.size+2 by omega) (.bool n') (.int .i64 e') (.slice a' l' c')
 have hwz:=(Xo1 HM).set3 (Xo2 HM) (.bool n') (.int .i64 e') (.slice a' l' c')
 exact ⟨rfl,.tuple #[.agg #[.bool n',.int .i64 e',.slice a' l' c'],.int .i64 er],by simp[results,go_sem,k0,k1,k2],n',e',a',l',c',L',er,rfl,(Xo0 HM),(Xo1 HM).on hwz,hbz⟩
def Q2v:List Int->List Int->Int
 |[],[]=>0
 |[],_::_=> -1
 |_::_,[]=>1
 |a::xs,b::bs=>if a<b then -1 else if b<a then 1 else Q2v xs bs
theorem Q6b:∀(a b:List Int),Q2v a b=0↔a=b
 |[],[]=>by simp[Q2v]
 |[],_::_=>by simp[Q2v]
 |_::_,[]=>by simp[Q2v]
 |a::xs,b::bs=>by
  have ih:=Q6b xs bs
  simp only[Q2v,List.cons.injEq]
  split
  ·constructor
   ·intro h;omega
   ·rintro ⟨rfl,_⟩;omega
  ·split
   ·constructor
    ·intro h;omega
    ·rintro ⟨rfl,_⟩;omega
   ·rw[ih]
    constructor
    ·intro h;exact ⟨by omega,h⟩
    ·exact fun h=>h.2
theorem Qat (a:List Int):Q2v a a=0:=(Q6b a a).2 rfl
theorem Q3e:∀(a b:List Int),Q2v b a= -Q2v a b
 |[],[]=>rfl
 |[],_::_=>rfl
 |_::_,[]=>rfl
 |a::xs,b::bs=>by
  have ih:=Q3e xs bs
  simp only[Q2v]
  by_cases h1:a<b
  ·rw[if_neg (by omega),if_pos h1,if_pos h1];rfl
  ·by_cases h2:b<a
   ·rw[if_pos h2,if_neg h1,if_pos h2]
   ·rw[if_neg h2,if_neg h1,if_neg h1,if_neg h2,ih]
theorem Q5f:∀(a b c:List Int),0<Q2v a b->0<Q2v b c->0<Q2v a c
 |[],[],_=>fun h=>by simp[Q2v] at h
 |[],_::_,_=>fun h=>by simp[Q2v] at h
 |_::_,[],[]=>fun _ h=>by simp[Q2v] at h
 |_::_,[],_::_=>fun _ h=>by simp[Q2v] at h
 |_::_,_::_,[]=>fun _ _=>by simp[Q2v]
 |a::xs,b::bs,c::cs=>by
  have ih:=Q5f xs bs cs
  simp only[Q2v]
  intro h1 h2
  by_cases c1:a<b
  ·rw[if_pos c1] at h1;omega
  ·rw[if_neg c1] at h1
   by_cases c2:b<c
   ·rw[if_pos c2] at h2;omega
   ·rw[if_neg c2] at h2
    rw[if_neg (by omega)]
    by_cases c3:c<a
    ·rw[if_pos c3];omega
    ·rw[if_neg c3]
     rw[if_neg (by omega)] at h1
     rw[if_neg (by omega)] at h2
     exact ih h1 h2
abbrev Q0b:=Dyadic × List Int
def Qa2 (l:List Q0b):Prop:=l.Pairwise fun p q=>0<Q2v p.2 q.2
def Q16 (E:List Int):List Q0b->Dyadic
 |[]=>0
 |p::r=>(if p.2=E then p.1 else 0)+Q16 E r
theorem Q7s (E:List Int) (l r:List Q0b):Q16 E (l++r)=Q16 E l+Q16 E r:=by
 induction l with
 |nil=>simp[Q16]
 |cons p l ih=>rw[List.cons_append,Q16,Q16,ih,Dyadic.add_assoc]
theorem Qia {E:List Int} {l:List Q0b} (h:∀p∈l,p.2≠E):Q16 E l=0:=by
 induction l with
 |nil=>rfl
 |cons p l ih=>
  rw[Q16,if_neg (h p (by simp)),ih fun q hq=>h q (by simp[hq])];rfl
theorem Qa2.tail_ne {p:Q0b} {l:List Q0b} (h:Qa2 (p::l)):∀q∈l,q.2≠p.2:=fun q hq e=>by
 have:=(List.pairwise_cons.1 h).1 q hq
 rw[e,Qat] at this
 omega
theorem Q4j {l:List Q0b} (hn:l.Pairwise fun p q=>p.2≠q.2) {p:Q0b} (h:p∈l):Q16 p.2 l=p.1:=by
 induction l with
 |nil=>cases h
 |cons q l ih=>
  obtain ⟨h1,h2⟩:=List.pairwise_cons.1 hn
  rcases List.mem_cons.1 h with rfl|h
  ·rw[Q16,if_pos rfl,Qia (fun r hr e=>h1 r hr e.symm),Dyadic.add_zero]
  ·rw[Q16,if_neg (h1 p h),ih h2 h,Dyadic.zero_add]
theorem Qa2.once {l:List Q0b} (h:Qa2 l):l.Pairwise fun p q=>p.2≠q.2:=by
 unfold Qa2 at h
 refine h.imp ?_
 intro p q h e
 rw[e,Qat] at h
 omega
theorem Qa2.same:∀{l r:List Q0b},Qa2 l->Qa2 r->(∀p,p∈l↔p∈r)->l=r
 |[],[],_,_,_=>rfl
 |[],q::r,_,_,h=>by have:=(h q).2 (by simp);cases this
 |p::l,[],_,_,h=>by have:=(h p).1 (by simp);cases this
 |p::l,q::r,hl,hr,h=>by
  obtain ⟨l1,l2⟩:=List.pairwise_cons.1 hl
  obtain ⟨r1,r2⟩:=List.pairwise_cons.1 hr
  have hpq:p=q:=by
   have hp:=(h p).1 (by simp)
   have hq:=(h q).2 (by simp)
   rcases List.mem_cons.1 hp with e|hp
   ·exact e
   ·rcases List.mem_cons.1 hq with e|hq
    ·exact e.symm
    ·have a1:=l1 q hq
     have a2:=r1 p hp
     have a3:=Q3e p.2 q.2
     omega
  subst hpq
  congr 1
  refine Qa2.same l2 r2 fun x=>?_
  have hx:=h x
  constructor
  ·intro hxl
   rcases List.mem_cons.1 (hx.1 (by simp[hxl])) with e|h'
   ·subst e;exact absurd rfl (hl.tail_ne x hxl)
   ·exact h'
  ·intro hxr
   rcases List.mem_cons.1 (hx.2 (by simp[hxr])) with e|h'
   ·subst e;exact absurd rfl (hr.tail_ne x hxr)
   ·exact h'
def Q6c (l:List Q0b) (c:Q0b):List Q0b:=
 match l with
 |[]=>[c]
 |q::r=>if 0<Q2v q.2 c.2 then q::Q6c r c else if q.2=c.2 then (q.1+c.1,q.2)::r else c::q::r
def Q17 (l:List Q0b):List Q0b:=l.foldl Q6c []
theorem Qf5 (l:List Q0b) (c:Q0b) (p:Q0b) (h:p∈Q6c l c):p∈l∨p.2=c.2:=by
 induction l with
 |nil=>simp only[Q6c,List.mem_singleton] at h;exact .inr (by rw[h])
 |cons q r ih=>
  simp only[Q6c] at h
  split at h
  ·rcases List.mem_cons.1 h with rfl|h
   ·exact .inl (by simp)
   ·rcases ih h with h|h
    ·exact .inl (by simp[h])
    ·exact .inr h
  ·split at h
   ·rename_i h2
    rcases List.mem_cons.1 h with rfl|h
    ·exact .inr h2
    ·exact .inl (by simp[h])
   ·rcases List.mem_cons.1 h with rfl|h
    ·exact .inr rfl
    ·exact .inl h
theorem Qoq {l:List Q0b} (h:Qa2 l) (c:Q0b):Qa2 (Q6c l c):=by
 induction l with
 |nil=>simp[Q6c,Qa2]
 |cons q r ih=>
  obtain ⟨h1,h2⟩:=List.pairwise_cons.1 h
  simp only[Q6c]
  split
  ·rename_i hc
   refine List.pairwise_cons.2 ⟨fun p hp=>?_,ih h2⟩
   rcases Qf5 r c p hp with hp|hp
   ·exact h1 p hp
   ·rw[hp];exact hc
  ·split
   ·exact List.pairwise_cons.2 ⟨h1,h2⟩
   ·rename_i hc1 hc2
    have h0:0<Q2v c.2 q.2:=by
     have a1:=Q3e q.2 c.2
     have a2:Q2v q.2 c.2≠0:=fun e=>hc2 ((Q6b _ _).1 e)
     omega
    refine List.pairwise_cons.2 ⟨fun p hp=>?_,h⟩
    rcases List.mem_cons.1 hp with rfl|hp
    ·exact h0
    ·exact Q5f _ _ _ h0 (h1 p hp)
theorem Qor (E:List Int) (l:List Q0b) (c:Q0b):Q16 E (Q6c l c)=Q16 E l+Q16 E [c]:=by
 induction l with
 |nil=>simp[Q6c,Q16]
 |cons q r ih=>
  simp only[Q6c]
  split
  ·simp only[Q16,ih,Dyadic.add_assoc]
  ·split
   ·rename_i h2
    simp only[Q16,Dyadic.add_zero]
    rw[<-h2]
    by_cases hq:q.2=E
    ·rw[if_pos hq,if_pos hq,if_pos hq];grind
    ·rw[if_neg hq,if_neg hq,if_neg hq];grind
   ·simp only[Q16,Dyadic.add_zero];grind
theorem Qrl (l:List Q0b) (c:Q0b):(∃p∈Q6c l c,p.2=c.2)/\∀p∈l,∃q∈Q6c l c,q.2=p.2:=by
 induction l with
 |nil=>exact ⟨⟨c,by simp[Q6c],rfl⟩,fun p hp=>(by cases hp)⟩
 |cons q r ih=>
  obtain ⟨⟨x,hx,hx2⟩,ih2⟩:=ih
  simp only[Q6c]
  split
  ·refine ⟨⟨x,by simp[hx],hx2⟩,fun p hp=>?_⟩
   rcases List.mem_cons.1 hp with rfl|hp
   ·exact ⟨p,by simp,rfl⟩
   ·obtain ⟨y,hy,hy2⟩:=ih2 p hp
    exact ⟨y,by simp[hy],hy2⟩
  ·split
   ·rename_i h2
    refine ⟨⟨_,List.mem_cons_self,h2⟩,fun p hp=>?_⟩
    rcases List.mem_cons.1 hp with rfl|hp
    ·exact ⟨_,List.mem_cons_self,rfl⟩
    ·exact ⟨p,by simp[hp],rfl⟩
   ·exact ⟨⟨c,by simp,rfl⟩,fun p hp=>⟨p,by simp only[List.mem_cons] at hp⊢;exact .inr hp,rfl⟩⟩
theorem Q6o (l:List Q0b) (c:Q0b):Q17 (l++[c])=Q6c (Q17 l) c:=by simp[Q17]
theorem Q4z (l:List Q0b):Qa2 (Q17 l)/\(∀E,Q16 E (Q17 l)=Q16 E l)/\(∀p∈Q17 l,∃q∈l,q.2=p.2)/\(∀p∈l,∃q∈Q17 l,q.2=p.2):=by
 have key:∀n,∀l:List Q0b,l.length=n->Qa2 (Q17 l)/\(∀E,Q16 E (Q17 l)=Q16 E l)/\(∀p∈Q17 l,∃q∈l,q.2=p.2)/\(∀p∈l,∃q∈Q17 l,q.2=p.2):=by
  intro n
  induction n with
  |zero=>
   intro l hl
   obtain rfl:=List.length_eq_zero_iff.1 hl
   exact ⟨List.Pairwise.nil,fun _=>rfl,fun p hp=>(by cases hp),fun p hp=>(by cases hp)⟩
  |succ n ih=>
   intro l hl
   have hne:l≠[]:=fun e=>by rw[e] at hl;simp at hl
   obtain ⟨k,c,rfl⟩:∃k c,l=k++[c]:=⟨l.dropLast,l.getLast hne,(List.dropLast_concat_getLast hne).symm⟩
   obtain ⟨h1,h2,h3,h4⟩:=ih k (by simpa using hl)
   rw[Q6o]
   refine ⟨Qoq h1 c,fun E=>by rw[Qor,h2,Q7s],fun p hp=>?_,fun p hp=>?_⟩
   ·rcases Qf5 _ c p hp with hp|hp
    ·obtain ⟨q,hq,hq2⟩:=h3 p hp
     exact ⟨q,by simp[hq],hq2⟩
    ·exact ⟨c,by simp,hp.symm⟩
   ·obtain ⟨i1,i2⟩:=Qrl (Q17 k) c
    rcases List.mem_append.1 hp with hp|hp
    ·obtain ⟨q,hq,hq2⟩:=h4 p hp
     obtain ⟨r,hr,hr2⟩:=i2 q hq
     exact ⟨r,hr,hr2.trans hq2⟩
    ·rw[List.mem_singleton] at hp;subst hp;exact i1
 exact key _ l rfl
theorem Qjz (l:List Q0b) (p:Q0b):p∈Q17 l↔(∃q∈l,q.2=p.2)/\p.1=Q16 p.2 l:=by
 obtain ⟨h1,h2,h3,h4⟩:=Q4z l
 constructor
 ·intro hp
  exact ⟨h3 p hp,by rw[<-h2,Q4j h1.once hp]⟩
 ·rintro ⟨⟨q,hq,hq2⟩,hp⟩
  obtain ⟨r,hr,hr2⟩:=h4 q hq
  have h5:=Q4j h1.once hr
  rw[h2] at h5
  have h6:r=p:=by
   obtain ⟨r1,r2⟩:=r
   obtain ⟨p1,p2⟩:=p
   simp only at hr2 h5 hp hq2
   rw[hq2] at hr2
   subst hr2
   rw[<-h5,<-hp]
  rw[<-h6];exact hr
theorem Qos {l:List Q0b} (h:Qa2 l):Q17 l=l:=by
 refine Qa2.same (Q4z l).1 h fun p=>?_
 rw[Qjz]
 constructor
 ·rintro ⟨⟨q,hq,hq2⟩,hp⟩
  have h5:=Q4j h.once hq
  rw[hq2] at h5
  have:q=p:=by
   obtain ⟨q1,q2⟩:=q;obtain ⟨p1,p2⟩:=p
   simp only at hq2 h5 hp
   subst hq2
   rw[hp,h5]
  rw[<-this];exact hq
 ·intro hp;exact ⟨⟨p,hp,rfl⟩,(Q4j h.once hp).symm⟩
def Q59 (l:List Q0b) (c:Q0b):List Q0b:=
 match l with
 |[]=>[c]
 |q::r=>if q.2=c.2 then (q.1+c.1,q.2)::r else q::Q59 r c
def Q9d (l:List Q0b):List Q0b:=l.foldl Q59 []
theorem Qf6 (l:List Q0b) (c:Q0b):Q9d (l++[c])=Q59 (Q9d l) c:=by simp[Q9d]
theorem Qlq (E:List Int) (l:List Q0b) (c:Q0b):Q16 E (Q59 l c)=Q16 E l+Q16 E [c]:=by
 induction l with
 |nil=>simp[Q59,Q16]
 |cons q r ih=>
  simp only[Q59]
  split
  ·rename_i h2
   simp only[Q16,Dyadic.add_zero]
   rw[<-h2]
   by_cases hq:q.2=E
   ·rw[if_pos hq,if_pos hq,if_pos hq];grind
   ·rw[if_neg hq,if_neg hq,if_neg hq];grind
  ·simp only[Q16,ih,Dyadic.add_assoc]
theorem Qcm (l:List Q0b) (c:Q0b) (p:Q0b) (h:p∈Q59 l c):(∃q∈l,q.2=p.2)∨p.2=c.2:=by
 induction l with
 |nil=>simp only[Q59,List.mem_singleton] at h;exact .inr (by rw[h])
 |cons q r ih=>
  simp only[Q59] at h
  split at h
  ·rename_i h2
   rcases List.mem_cons.1 h with rfl|h
   ·exact .inr h2
   ·exact .inl ⟨p,by simp[h],rfl⟩
  ·rcases List.mem_cons.1 h with rfl|h
   ·exact .inl ⟨p,by simp,rfl⟩
   ·rcases ih h with ⟨x,hx,hx2⟩|h
    ·exact .inl ⟨x,by simp[hx],hx2⟩
    ·exact .inr h
theorem Qot (l:List Q0b) (c:Q0b):(∃p∈Q59 l c,p.2=c.2)/\∀p∈l,∃q∈Q59 l c,q.2=p.2:=by
 induction l with
 |nil=>exact ⟨⟨c,by simp[Q59],rfl⟩,fun p hp=>(by cases hp)⟩
 |cons q r ih=>
  obtain ⟨⟨x,hx,hx2⟩,ih2⟩:=ih
  simp only[Q59]
  split
  ·rename_i h2
   refine ⟨⟨_,List.mem_cons_self,h2⟩,fun p hp=>?_⟩
   rcases List.mem_cons.1 hp with rfl|hp
   ·exact ⟨_,List.mem_cons_self,rfl⟩
   ·exact ⟨p,by simp[hp],rfl⟩
  ·refine ⟨⟨x,by simp[hx],hx2⟩,fun p hp=>?_⟩
   rcases List.mem_cons.1 hp with rfl|hp
   ·exact ⟨p,by simp,rfl⟩
   ·obtain ⟨y,hy,hy2⟩:=ih2 p hp
    exact ⟨y,by simp[hy],hy2⟩
theorem Qlr {l:List Q0b} (h:l.Pairwise fun p q=>p.2≠q.2) (c:Q0b):(Q59 l c).Pairwise fun p q=>p.2≠q.2:=by
 induction l with
 |nil=>simp[Q59]
 |cons q r ih=>
  obtain ⟨h1,h2⟩:=List.pairwise_cons.1 h
  simp only[Q59]
  split
  ·exact List.pairwise_cons.2 ⟨h1,h2⟩
  ·rename_i hc
   refine List.pairwise_cons.2 ⟨fun p hp=>?_,ih h2⟩
   rcases Qcm r c p hp with ⟨x,hx,hx2⟩|hp
   ·rw[<-hx2];exact h1 x hx
   ·rw[hp];exact hc
theorem Qou (l:List Q0b):((Q9d l).Pairwise fun p q=>p.2≠q.2)/\(∀E,Q16 E (Q9d l)=Q16 E l)/\(∀p∈Q9d l,∃q∈l,q.2=p.2)/\(∀p∈l,∃q∈Q9d l,q.2=p.2):=by
 have key:∀n,∀l:List Q0b,l.length=n->((Q9d l).Pairwise fun p q=>p.2≠q.2)/\(∀E,Q16 E (Q9d l)=Q16 E l)/\(∀p∈Q9d l,∃q∈l,q.2=p.2)/\(∀p∈l,∃q∈Q9d l,q.2=p.2):=by
  intro n
  induction n with
  |zero=>
   intro l hl
   obtain rfl:=List.length_eq_zero_iff.1 hl
   exact ⟨List.Pairwise.nil,fun _=>rfl,fun p hp=>(by cases hp),fun p hp=>(by cases hp)⟩
  |succ n ih=>
   intro l hl
   have hne:l≠[]:=fun e=>by rw[e] at hl;simp at hl
   obtain ⟨k,c,rfl⟩:∃k c,l=k++[c]:=⟨l.dropLast,l.getLast hne,(List.dropLast_concat_getLast hne).symm⟩
   obtain ⟨h1,h2,h3,h4⟩:=ih k (by simpa using hl)
   rw[Qf6]
   refine ⟨Qlr h1 c,fun E=>by rw[Qlq,h2,Q7s],fun p hp=>?_,fun p hp=>?_⟩
   ·rcases Qcm _ c p hp with ⟨x,hx,hx2⟩|hp
    ·obtain ⟨q,hq,hq2⟩:=h3 x hx
     exact ⟨q,by simp[hq],hq2.trans hx2⟩
    ·exact ⟨c,by simp,hp.symm⟩
   ·obtain ⟨i1,i2⟩:=Qot (Q9d k) c
    rcases List.mem_append.1 hp with hp|hp
    ·obtain ⟨q,hq,hq2⟩:=h4 p hp
     obtain ⟨r,hr,hr2⟩:=i2 q hq
     exact ⟨r,hr,hr2.trans hq2⟩
    ·rw[List.mem_singleton] at hp;subst hp;exact i1
 exact key _ l rfl
theorem Qu1 (l:List Q0b) (p:Q0b):p∈Q9d l↔(∃q∈l,q.2=p.2)/\p.1=Q16 p.2 l:=by
 obtain ⟨h1,h2,h3,h4⟩:=Qou l
 constructor
 ·intro hp
  exact ⟨h3 p hp,by rw[<-h2,Q4j h1 hp]⟩
 ·rintro ⟨⟨q,hq,hq2⟩,hp⟩
  obtain ⟨r,hr,hr2⟩:=h4 q hq
  have h5:=Q4j h1 hr
  rw[h2] at h5
  have h6:r=p:=by
   obtain ⟨r1,r2⟩:=r
   obtain ⟨p1,p2⟩:=p
   simp only at hr2 h5 hp hq2
   rw[hq2] at hr2
   subst hr2
   rw[<-h5,<-hp]
  rw[<-h6];exact hr
theorem Qds (l:List Q0b) (p:Q0b):p∈Q9d l↔p∈Q17 l:=by rw[Qu1,Qjz]
def Q8q:Dyadic->Bool
 | .zero=>true
 | .ofOdd n k _=>decide (n.natAbs<(2^64)^64) && (decide (-65536<=-k) && decide (-k<=65536))
theorem Q1g (d:Dyadic):Q8q d=true↔Q63 d:=by
 cases d with
 |zero=>exact ⟨fun _=>.inl rfl,fun _=>rfl⟩
 |ofOdd n k h=>
  have e:Dyadic.ofOdd n k h=dy n (-k):=by rw[Qaq h,Int.neg_neg]
  constructor
  ·intro hb
   simp only[Q8q,Bool.and_eq_true,decide_eq_true_eq] at hb
   exact .inr ⟨n,-k,e,h,hb.1,hb.2.1,hb.2.2⟩
  ·rintro (h0|⟨m,f,h1,hm,h2,h3,h4⟩)
   ·exact absurd h0 Dyadic.of_ne_zero
   ·rw[e] at h1
    obtain ⟨rfl,hk⟩:=Qoj h hm h1
    simp only[Q8q,Bool.and_eq_true,decide_eq_true_eq]
    exact ⟨h2,by omega,by omega⟩
theorem Qdt (d:Dyadic):Q8q d=false↔¬Q63 d:=by
 rw[<-Q1g];simp
theorem Q7t:Q63 0:=.inl rfl
theorem Qk0 {d:Dyadic} (h:Q63 d):Q63 (-d):=by
 rcases h with rfl|⟨m,e,rfl,h1,h2,h3⟩
 ·exact .inl rfl
 ·exact .inr ⟨-m,e,Qex m e,by omega,by omega,h3⟩
def Q1t (l:List Q0b):Except Int (List Q0b):=
 if (Q17 l).any (fun p=> !Q8q p.1)=true then .error 2
 else if 24<((Q17 l).filter fun p=>decide (p.1≠0)).length then .error 6
 else .ok ((Q17 l).filter fun p=>decide (p.1≠0))
def Q0m (n:Nat) (E:List Int):Prop:=E.length=n/\(∀x∈E,0<=x)/\E.sum<=8
instance (n:Nat) (E:List Int):Decidable (Q0m n E):=by unfold Q0m;infer_instance
def Qcn (n:Nat) (p:Q0b):Prop:=Q63 p.1/\Q0m n p.2
def Q18 (n:Nat) (P:List Q0b):Prop:=Qa2 P/\P.length<=24/\∀p∈P,p.1≠0/\Qcn n p
theorem Q8r {n:Nat} {l P:List Q0b} (hl:∀p∈l,Q0m n p.2) (h:Q1t l=.ok P):Q18 n P:=by
 unfold Q1t at h
 split at h
 ·cases h
 ·rename_i ha
  split at h
  ·cases h
  ·rename_i hlen
   injection h with h
   subst h
   obtain ⟨h1,_,h3,_⟩:=Q4z l
   refine ⟨List.Pairwise.filter _ h1,by omega,fun p hp=>?_⟩
   obtain ⟨hm,hz⟩:=List.mem_filter.1 hp
   refine ⟨by simpa using hz,?_,?_⟩
   ·rw[<-Q1g]
    cases hf:Q8q p.1 with
    |true=>rfl
    |false=>
     exfalso
     refine ha ?_
     rw[List.any_eq_true]
     exact ⟨p,hm,by rw[hf];rfl⟩
   ·obtain ⟨q,hq,hq2⟩:=h3 p hm
    rw[<-hq2];exact hl q hq
theorem Qf7 {n:Nat} {P:List Q0b} (h:Q18 n P):P.filter (fun p=>decide (p.1≠0))=P:=by
 rw[List.filter_eq_self]
 intro p hp
 simpa using (h.2.2 p hp).1
theorem Qf8 {n:Nat} {P:List Q0b} (h:Q18 n P):Q1t P=.ok P:=by
 unfold Q1t
 rw[Qos h.1,Qf7 h,if_neg,if_neg (by have:=h.2.1;omega)]
 intro ha
 obtain ⟨p,hp,hf⟩:=List.any_eq_true.1 ha
 have:=(Q1g p.1).2 (h.2.2 p hp).2.1
 rw[this] at hf
 cases hf
def Qnj (a b:List Q0b):Except Int (List Q0b):=Q1t (a++b)
def Q47 (a:List Q0b):List Q0b:=a.map fun p=>(-p.1,p.2)
theorem Qls {n:Nat} {P:List Q0b} (h:Q18 n P):Q18 n (Q47 P):=by
 refine ⟨?_,by simpa[Q47] using h.2.1,fun p hp=>?_⟩
 ·unfold Q47 Qa2
  rw[List.pairwise_map]
  exact h.1
 ·obtain ⟨q,hq,rfl⟩:=List.mem_map.1 hp
  obtain ⟨h1,h2,h3⟩:=h.2.2 q hq
  refine ⟨fun e=>h1 ?_,Qk0 h2,h3⟩
  have:q.1= - -q.1:=by grind
  rw[this,show -q.1=0 from e];rfl
theorem Qf9 {n:Nat} {a b P:List Q0b} (ha:Q18 n a) (hb:Q18 n b) (h:Qnj a b=.ok P):Q18 n P:=
 Q8r (fun p hp=>by
  rcases List.mem_append.1 hp with hp|hp
  ·exact (ha.2.2 p hp).2.2
  ·exact (hb.2.2 p hp).2.2) h
def Qlt (P:List Q0b):Int:=P.foldl (fun d p=>max d p.2.sum) 0
theorem Qk1 (P:List Q0b) (d:Int):d<=P.foldl (fun d p=>max d p.2.sum) d/\∀p∈P,p.2.sum<=P.foldl (fun d p=>max d p.2.sum) d:=by
 induction P generalizing d with
 |nil=>exact ⟨Int.le_refl _,fun p hp=>by cases hp⟩
 |cons q P ih=>
  obtain ⟨h1,h2⟩:=ih (max d q.2.sum)
  rw[List.foldl_cons]
  refine ⟨by omega,fun p hp=>?_⟩
  rcases List.mem_cons.1 hp with rfl|hp
  ·omega
  ·exact h2 p hp
theorem Qov {P:List Q0b} {p:Q0b} (h:p∈P):p.2.sum<=Qlt P:=(Qk1 P 0).2 p h
theorem Qu2 (P:List Q0b):0<=Qlt P:=(Qk1 P 0).1
def Qrm (a b:Q0b):Q0b:=(a.1*b.1,List.zipWith (·+·) a.2 b.2)
def Q64 (a b:List Q0b):List Q0b:=a.flatMap fun x=>b.map (Qrm x)
def Qau (a b:List Q0b):Except Int (List Q0b):=
 if a≠[]/\b≠[]/\8<Qlt a+Qlt b then .error 6
 else if (Q64 a b).any (fun p=> !Q8q p.1)=true then .error 2
 else Q1t (Q64 a b)
theorem Qib:∀(x y:List Int),x.length=y.length->(List.zipWith (·+·) x y).sum=x.sum+y.sum
 |[],[],_=>rfl
 |a::x,b::y,h=>by
  have:=Qib x y (by simpa using h)
  simp only[List.zipWith_cons_cons,List.sum_cons,this]
  omega
theorem Qic:∀(x y:List Int),(∀a∈x,0<=a)->(∀a∈y,0<=a)->∀a∈List.zipWith (·+·) x y,0<=a
 |[],_,_,_,a,h=>by simp at h
 |_::_,[],_,_,a,h=>by simp at h
 |a::x,b::y,hx,hy,c,h=>by
  rw[List.zipWith_cons_cons] at h
  rcases List.mem_cons.1 h with rfl|h
  ·have:=hx a (by simp);have:=hy b (by simp);omega
  ·exact Qic x y (fun z hz=>hx z (by simp[hz])) (fun z hz=>hy z (by simp[hz])) c h
theorem Qco {n:Nat} {a b:List Q0b} (ha:Q18 n a) (hb:Q18 n b) (hd:¬(a≠[]/\b≠[]/\8<Qlt a+Qlt b)):∀p∈Q64 a b,Q0m n p.2:=by
 intro p hp
 obtain ⟨x,hx,hp⟩:=List.mem_flatMap.1 hp
 obtain ⟨y,hy,rfl⟩:=List.mem_map.1 hp
 obtain ⟨_,_,hx1,hx2,hx3⟩:=ha.2.2 x hx
 obtain ⟨_,_,hy1,hy2,hy3⟩:=hb.2.2 y hy
 refine ⟨by simp[Qrm,hx1,hy1],Qic _ _ hx2 hy2,?_⟩
 show (List.zipWith (·+·) x.2 y.2).sum<=8
 rw[Qib _ _ (hx1.trans hy1.symm)]
 have h1:=Qov hx
 have h2:=Qov hy
 have h3:¬8<Qlt a+Qlt b:=fun h=>hd ⟨fun e=>(by rw[e] at hx;cases hx),fun e=>(by rw[e] at hy;cases hy),h⟩
 omega
theorem Qfa {n:Nat} {a b P:List Q0b} (ha:Q18 n a) (hb:Q18 n b) (h:Qau a b=.ok P):Q18 n P:=by
 unfold Qau at h
 split at h
 ·cases h
 ·rename_i hd
  split at h
  ·cases h
  ·exact Q8r (Qco ha hb hd) h
def Qhl (p:List Q0b):Nat->Except Int (List Q0b)
 |0=>.ok p
 |k+1=>match Qhl p k with
  | .error e=>.error e
  | .ok q=>Qau q p
def Qfb (n:Nat) (p:List Q0b) (k:Nat):Except Int (List Q0b):=
 match k with
 |0=>.ok [(1,List.replicate n 0)]
 |k+1=>Qhl p k
inductive Ex where
 |num (c:Option Dyadic)
 |var (i:Nat)
 |sum (l:List (Bool × Ex))
 |prod (l:List Ex)
 |pow (b:Ex) (k:Nat)
def Q9q (n i:Nat):List Int:=(List.replicate n 0).set i 1
mutual
def Q1k (n:Nat):Ex->Except Int (List Q0b)
 | .num none=>.error 2
 | .num (some c)=>Q1t [(c,List.replicate n 0)]
 | .var i=>Q1t [(1,Q9q n i)]
 | .sum l=>Q3m n none l
 | .prod l=>Q3n n none l
 | .pow b k=>match Q1k n b with
   | .error e=>.error e
   | .ok p=>Qfb n p k
def Q3m (n:Nat) (acc:Option (List Q0b)):List (Bool × Ex)->Except Int (List Q0b)
 |[]=>.ok (acc.getD [])
 |(b,t)::r=>match Q1k n t with
  | .error e=>.error e
  | .ok p=>match acc with
    |none=>Q3m n (some (if b then Q47 p else p)) r
    |some q=>match Qnj q (if b then Q47 p else p) with
     | .error e=>.error e
     | .ok q'=>Q3m n (some q') r
def Q3n (n:Nat) (acc:Option (List Q0b)):List Ex->Except Int (List Q0b)
 |[]=>.ok (acc.getD [])
 |t::r=>match Q1k n t with
  | .error e=>.error e
  | .ok p=>match acc with
    |none=>Q3n n (some p) r
    |some q=>match Qau q p with
     | .error e=>.error e
     | .ok q'=>Q3n n (some q') r
end
end Go.Proofs.YtdilmfakkppgpaaGreatDoor
namespace Go.Proofs.YtdilmfakkppgpaaGreatDoor
open Go.RowKit WordsM DecM
def Q09 (s:List UInt8) (p:Nat):UInt8:=s.getD p 0
theorem Q5g {s:List UInt8} {p:Nat} (h:Q09 s p≠0):p<s.length:=by
 refine Nat.lt_of_not_le fun hle=>h ?_
 unfold Q09
 rw[List.getD_eq_getElem?_getD,List.getElem?_eq_none hle];rfl
theorem Q0i {s:List UInt8} {p:Nat} {c:UInt8} (h:Q09 s p=c) (hc:c≠0):p<s.length:=Q5g (by rw[h];exact hc)
def Q3f:List UInt8->Nat
 |[]=>0
 |c::r=>if c=32 then Q3f r+1 else 0
def Q07 (s:List UInt8) (p:Nat):Nat:=p+Q3f (s.drop p)
theorem Qk2:∀l,Q3f l<=l.length
 |[]=>Nat.le_refl _
 |c::r=>by
  have:=Qk2 r
  simp only[Q3f,List.length_cons]
  split <;> omega
theorem Q5a (s:List UInt8) (p:Nat):p<=Q07 s p:=Nat.le_add_right _ _
theorem Q2r {s:List UInt8} {p:Nat} (h:p<=s.length):Q07 s p<=s.length:=by
 have:=Qk2 (s.drop p)
 rw[List.length_drop] at this
 unfold Q07;omega
theorem Q35 {s:List UInt8} {p:Nat} (h:Q09 s p=32):Q07 s p=Q07 s (p+1):=by
 have hp:=Q0i h (by decide)
 unfold Q07
 rw[List.drop_eq_getElem_cons hp]
 have hc:s[p]=32:=by
  unfold Q09 at h
  rw[List.getD_eq_getElem?_getD,List.getElem?_eq_getElem hp] at h
  exact h
 rw[Q3f,if_pos hc];omega
theorem Q6d {s:List UInt8} {p:Nat} (h:Q09 s p≠32):Q07 s p=p:=by
 unfold Q07
 by_cases hp:p<s.length
 ·rw[List.drop_eq_getElem_cons hp]
  have hc:s[p]≠32:=by
   unfold Q09 at h
   rw[List.getD_eq_getElem?_getD,List.getElem?_eq_getElem hp] at h
   exact h
  rw[Q3f,if_neg hc];rfl
 ·rw[List.drop_of_length_le (by omega)];rfl
theorem Q7u (s:List UInt8) (p:Nat):Q07 s (Q07 s p)=Q07 s p:=by
 have key:∀n p,s.length-p=n->Q07 s (Q07 s p)=Q07 s p:=by
  intro n
  induction n using Nat.strongRecOn with
  |ind n ih=>
   intro p hn
   by_cases h:Q09 s p=32
   ·have hp:=Q0i h (by decide)
    rw[Q35 h]
    exact ih (s.length-(p+1)) (by omega) (p+1) rfl
   ·rw[Q6d h,Q6d h]
 exact key _ p rfl
abbrev PR (α:Type):=Except Nat (α × Nat)
def Q1h (s:List UInt8) (p:Nat):Nat:=p+digN (s.drop p)
theorem Qav {s:List UInt8} {p:Nat} (h:p<=s.length):p<=Q1h s p/\Q1h s p<=s.length:=by
 have:=Qdn (s.drop p)
 rw[List.length_drop] at this
 unfold Q1h;omega
def Q9r (s:List UInt8) (p:Nat):Nat:=
 if Q09 s (Q1h s p)=112 then (if Q09 s (Q1h s p+1)=45 then Q1h s (Q1h s p+2) else Q1h s (Q1h s p+1)) else Q1h s p
theorem Qt7 {s:List UInt8} {p:Nat} (h:p<=s.length):Q1h s p<=Q9r s p/\Q9r s p<=s.length:=by
 have h1:=Qav h
 unfold Q9r
 split
 ·rename_i h2
  have h3:=Q0i h2 (by decide)
  split
  ·rename_i h4
   have h5:=Q0i h4 (by decide)
   have:=Qav (s:=s) (p:=Q1h s p+2) (by omega)
   omega
  ·have:=Qav (s:=s) (p:=Q1h s p+1) (by omega)
   omega
 ·omega
def Qid (s:List UInt8) (p:Nat):PR Ex:=
 match form ((s.drop p).take (Q9r s p-p)) with
 |none=>.error p
 |some (neg,v,e)=>.ok (.num (if Q8q (dy (sgn neg v) e)=true then some (dy (sgn neg v) e) else none),Q9r s p)
def Q4u (sub:Nat->PR Ex) (opens:Bool) (s:List UInt8) (most:Nat) (p0:Nat):PR Ex:=
 if 48<=(Q09 s (Q07 s p0)).toNat/\(Q09 s (Q07 s p0)).toNat<=57 then Qid s (Q07 s p0)
 else if Q09 s (Q07 s p0)=120 then
  (if 49<=(Q09 s (Q07 s p0+1)).toNat/\(Q09 s (Q07 s p0+1)).toNat<=48+most then .ok (.var ((Q09 s (Q07 s p0+1)).toNat-49),Q07 s p0+2) else .error (Q07 s p0+1))
 else if Q09 s (Q07 s p0)=40/\opens=true then
  match sub (Q07 s p0+1) with
  | .error e=>.error e
  | .ok (x,q)=>if Q09 s (Q07 s q)=41 then .ok (x,Q07 s q+1) else .error (Q07 s q)
 else .error (Q07 s p0)
def Q1r (sub:Nat->PR Ex) (opens:Bool) (s:List UInt8) (most:Nat) (p:Nat):PR Ex:=
 match Q4u sub opens s most p with
 | .error e=>.error e
 | .ok (b,q)=>if Q09 s (Q07 s q)=94 then
    (if 48<=(Q09 s (Q07 s (Q07 s q+1))).toNat/\(Q09 s (Q07 s (Q07 s q+1))).toNat<=56 then .ok (.pow b ((Q09 s (Q07 s (Q07 s q+1))).toNat-48),Q07 s (Q07 s q+1)+1) else .error (Q07 s (Q07 s q+1)))
   else .ok (b,Q07 s q)
def Q38 (sub:Nat->PR Ex) (opens:Bool) (s:List UInt8) (most:Nat):Nat->Nat->List Ex->PR Ex
 |0,p,_=>.error p
 |f+1,p,acc=>match Q1r sub opens s most p with
  | .error e=>.error e
  | .ok (x,q)=>if Q09 s (Q07 s q)=42 then Q38 sub opens s most f (Q07 s q+1) (acc++[x]) else .ok (.prod (acc++[x]),Q07 s q)
def Q7v (sub:Nat->PR Ex) (opens:Bool) (s:List UInt8) (most:Nat):Nat->Nat->Bool->List (Bool × Ex)->PR Ex
 |0,p,_,_=>.error p
 |f+1,p,below,acc=>match Q38 sub opens s most (s.length+1) p [] with
  | .error e=>.error e
  | .ok (x,q)=>if Q09 s (Q07 s q)=43 then Q7v sub opens s most f (Q07 s q+1) false (acc++[(below,x)])
    else if Q09 s (Q07 s q)=45 then Q7v sub opens s most f (Q07 s q+1) true (acc++[(below,x)])
    else .ok (.sum (acc++[(below,x)]),Q07 s q)
def Q4e (sub:Nat->PR Ex) (opens:Bool) (s:List UInt8) (most:Nat) (p:Nat):PR Ex:=
 if Q09 s (Q07 s p)=45 then Q7v sub opens s most (s.length+1) (Q07 s p+1) true [] else Q7v sub opens s most (s.length+1) (Q07 s p) false []
def Q3o (s:List UInt8) (most:Nat):Nat->Nat->PR Ex
 |0=>Q4e (fun q=>.error q) false s most
 |d+1=>Q4e (Q3o s most d) true s most
def Q5h (s:List UInt8) (p:Nat) (r:PR Ex):Prop:=
 match r with
 | .error e=>e<=s.length
 | .ok (_,q)=>p<q/\q<=s.length
theorem Qow {s:List UInt8} {p:Nat} (hp:p<=s.length):Q5h s p (Qid s p):=by
 have h1:=Qt7 hp
 have h2:=Qav hp
 unfold Qid
 split
 ·exact hp
 ·rename_i neg v e hf
  refine ⟨?_,h1.2⟩
  refine Nat.lt_of_not_le fun hle=>?_
  rw[show Q9r s p-p=0 by omega,List.take_zero,show form []=none by decide] at hf
  cases hf
theorem Qlu {sub:Nat->PR Ex} {opens:Bool} {s:List UInt8} {most:Nat} (hs:opens=true->∀p,p<=s.length->Q5h s p (sub p)) {p:Nat} (hp:p<=s.length):Q5h s p (Q4u sub opens s most p):=by
 have h1:=Q2r hp
 have h2:=Q5a s p
 unfold Q4u
 split
 ·have:=Qow h1
  revert this
  unfold Q5h
  split
  ·exact id
  ·intro h;omega
 ·split
  ·rename_i h3
   have h4:=Q0i h3 (by decide)
   split
   ·rename_i h5
    have h6:Q07 s p+1<s.length:=Q5g (fun e=>by rw[e] at h5;exact absurd h5.1 (by decide))
    show p<Q07 s p+2/\_
    omega
   ·show Q07 s p+1<=s.length
    omega
  ·split
   ·rename_i h3
    have h4:=Q0i h3.1 (by decide)
    have h5:=hs h3.2 (Q07 s p+1) (by omega)
    revert h5
    cases sub (Q07 s p+1) with
    |error e=>exact id
    |ok r=>
     obtain ⟨x,q⟩:=r
     intro h5
     have h5':Q07 s p+1<q/\q<=s.length:=h5
     have h6:=Q2r h5'.2
     have h7:=Q5a s q
     simp only
     split
     ·rename_i h8
      have h9:=Q0i h8 (by decide)
      show p<Q07 s q+1/\_
      omega
     ·show Q07 s q<=s.length
      exact h6
   ·exact h1
theorem Q9e {sub:Nat->PR Ex} {opens:Bool} {s:List UInt8} {most:Nat} (hs:opens=true->∀p,p<=s.length->Q5h s p (sub p)) {p:Nat} (hp:p<=s.length):Q5h s p (Q1r sub opens s most p):=by
 have h5:=Qlu (most:=most) hs hp
 unfold Q1r
 revert h5
 cases Q4u sub opens s most p with
 |error e=>exact id
 |ok r=>
  obtain ⟨x,q⟩:=r
  intro h5
  have h5':p<q/\q<=s.length:=h5
  have h6:=Q2r h5'.2
  have h7:=Q5a s q
  simp only
  split
  ·rename_i h8
   have h9:=Q0i h8 (by decide)
   have h10:=Q2r (s:=s) (p:=Q07 s q+1) (by omega)
   have h11:=Q5a s (Q07 s q+1)
   split
   ·rename_i h12
    have h13:Q07 s (Q07 s q+1)<s.length:=Q5g (fun e=>by rw[e] at h12;exact absurd h12.1 (by decide))
    show p<Q07 s (Q07 s q+1)+1/\_
    omega
   ·exact h10
  ·show p<Q07 s q/\_
   omega
theorem Q8s {sub:Nat->PR Ex} {opens:Bool} {s:List UInt8} {most:Nat} (hs:opens=true->∀p,p<=s.length->Q5h s p (sub p)):∀(f:Nat) {p:Nat} (acc:List Ex),p<=s.length->Q5h s p (Q38 sub opens s most f p acc)
 |0,p,acc,hp=>hp
 |f+1,p,acc,hp=>by
  have h5:=Q9e (most:=most) hs hp
  unfold Q38
  revert h5
  cases Q1r sub opens s most p with
  |error e=>exact id
  |ok r=>
   obtain ⟨x,q⟩:=r
   intro h5
   have h5':p<q/\q<=s.length:=h5
   have h6:=Q2r h5'.2
   have h7:=Q5a s q
   simp only
   split
   ·rename_i h8
    have h9:=Q0i h8 (by decide)
    have:=Q8s (most:=most) hs f (p:=Q07 s q+1) (acc++[x]) (by omega)
    revert this
    unfold Q5h
    split
    ·exact id
    ·intro h;omega
   ·show p<Q07 s q/\_
    omega
theorem Q7w {sub:Nat->PR Ex} {opens:Bool} {s:List UInt8} {most:Nat} (hs:opens=true->∀p,p<=s.length->Q5h s p (sub p)):∀(f:Nat) {p:Nat} (below:Bool) (acc:List (Bool × Ex)),p<=s.length->Q5h s p (Q7v sub opens s most f p below acc)
 |0,p,below,acc,hp=>hp
 |f+1,p,below,acc,hp=>by
  have h5:=Q8s (most:=most) hs (s.length+1) [] hp
  unfold Q7v
  revert h5
  cases Q38 sub opens s most (s.length+1) p [] with
  |error e=>exact id
  |ok r=>
   obtain ⟨x,q⟩:=r
   intro h5
   have h5':p<q/\q<=s.length:=h5
   have h6:=Q2r h5'.2
   have h7:=Q5a s q
   simp only
   split
   ·rename_i h8
    have h9:=Q0i h8 (by decide)
    have:=Q7w (most:=most) hs f (p:=Q07 s q+1) false (acc++[(below,x)]) (by omega)
    revert this
    unfold Q5h
    split
    ·exact id
    ·intro h;omega
   ·split
    ·rename_i h8
     have h9:=Q0i h8 (by decide)
     have:=Q7w (most:=most) hs f (p:=Q07 s q+1) true (acc++[(below,x)]) (by omega)
     revert this
     unfold Q5h
     split
     ·exact id
     ·intro h;omega
    ·show p<Q07 s q/\_
     omega
theorem Qaw {sub:Nat->PR Ex} {opens:Bool} {s:List UInt8} {most:Nat} (hs:opens=true->∀p,p<=s.length->Q5h s p (sub p)) {p:Nat} (hp:p<=s.length):Q5h s p (Q4e sub opens s most p):=by
 have h6:=Q2r hp
 have h7:=Q5a s p
 unfold Q4e
 split
 ·rename_i h8
  have h9:=Q0i h8 (by decide)
  have:=Q7w (most:=most) hs (s.length+1) (p:=Q07 s p+1) true [] (by omega)
  revert this
  unfold Q5h
  split
  ·exact id
  ·intro h;omega
 ·have:=Q7w (most:=most) hs (s.length+1) (p:=Q07 s p) false [] h6
  revert this
  unfold Q5h
  split
  ·exact id
  ·intro h;omega
theorem Q8t (s:List UInt8) (most:Nat):∀(d p:Nat),p<=s.length->Q5h s p (Q3o s most d p)
 |0,p,hp=>Qaw (fun h=>by cases h) hp
 |d+1,p,hp=>Qaw (fun _ p hp=>Q8t s most d p hp) hp
def Q29 (s:List UInt8):List UInt8->Nat->Except Nat Nat
 |[],p=>.ok p
 |c::r,p=>if Q09 s p=c then Q29 s r (p+1) else .error p
def Q2l (i:Nat):List UInt8:=120::(dec (i+1)++[39,32,61,32])
def Qax (s:List UInt8) (most i p:Nat):PR Ex:=
 match Q29 s (Q2l i) p with
 | .error e=>.error e
 | .ok p1=>match Q3o s most 16 p1 with
   | .error e=>.error e
   | .ok (x,q)=>if Q09 s (Q07 s q)=10 then .ok (x,Q07 s q+1) else .error (Q07 s q)
def Q40 (s:List UInt8) (most:Nat):Nat->Nat->List (Nat × Ex)->Except Nat (List (Nat × Ex))
 |0,p,_=>.error p
 |f+1,p,acc=>match Qax s most acc.length p with
  | .error e=>.error e
  | .ok (x,q)=>if q<s.length then Q40 s most f q (acc++[(p,x)]) else .ok (acc++[(p,x)])
def Q2m (n:Nat):List (Nat × Ex)->List (List Q0b)->Except (Nat × Int) (List (List Q0b))
 |[],acc=>.ok acc
 |(p,x)::r,acc=>match Q1k n x with
  | .error e=>.error (p,e)
  | .ok P=>Q2m n r (acc++[P])
def Q4o (s:List UInt8):Except (Nat × Int) (List (List Q0b)):=
 match Q40 s (min (s.count 10) 4) 4 0 [] with
 | .error p=>.error (p,5)
 | .ok l=>Q2m l.length l []
end Go.Proofs.YtdilmfakkppgpaaGreatDoor
