/- Part 11 of the proof of LawParseBack: NumF, PolyM, PolyM2, ParseM. Condition: as each theorem says; none at the end. -/
import Derived.Test.YtdilmfakkppgpaaGreatDoorPkParseBack07
import Derived.Test.YtdilmfakkppgpaaGreatDoorPkParseBack08
import Derived.Test.YtdilmfakkppgpaaGreatDoorPkParseBack10
import Derived.Test.YtdilmfakkppgpaaGreatDoorPkParseBack01
set_option maxRecDepth 100000
set_option maxHeartbeats 16000000
namespace Go.Proofs.YtdilmfakkppgpaaGreatDoor
open Go.RowKit WordsM
theorem Qg5 {A B:List Nat} (hA:Low (2^64) A) (hB:Low (2^64) B):(dig (2^64) (val (2^64) A*val (2^64) B)).length≤A.length+B.length:=by
 have h1:=Q2q (B:=2^64) (by decide) A hA
 have h2:=Q2q (B:=2^64) (by decide) B hB
 refine Q23 (by decide) ?_
 rw[Nat.pow_add]
 exact Nat.mul_lt_mul'' h1 h2
theorem Q4u {n:Bool} {e:Int} {L:List Nat} (h:Q0g n e L) (hl:Low (2^64) L):L.length≤64∧-65536≤e∧e≤65536:=by
 rcases Q1x h hl with ⟨rfl,_,rfl⟩|⟨_,_,h2,h3,h4,h5⟩
 ·simp
 ·exact ⟨by rw[h2];exact Qc4 h3,h4,h5⟩
theorem Qm0 (nx ny:Bool) (ex ey:Int) (ls ks:List Nat):Q1z (nx != ny) (ex+ey) (dig (2^64) (val (2^64) ls*val (2^64) ks))=Q1z nx ex ls*Q1z ny ey ks:=by
 rw[Q8x]
 unfold Q1z
 rw[Qqb,Qlv]
theorem Qg6 (nx:Bool) (ex:Int) (ax:Option Addr) (lx cx:Nat) (ls:List Nat) (ny:Bool) (ey:Int) (ay:Option Addr) (ly cy:Nat) (ks:List Nat) (w:World) (h1:WordsIn w ax lx cx ls) (h2:WordsIn w ay ly cy ks) (i1:Q0g nx ex ls) (i2:Q0g ny ey ks) (hT:Q25 w):
 Calls Tryz.prog 226 #[.agg #[.bool nx,.int .i64 ex,.slice ax lx cx],.agg #[.bool ny,.int .i64 ey,.slice ay ly cy],.func (.func 54) #[] #[]] w (Qly w (Q1z nx ex ls*Q1z ny ey ks)):=by
 have hs1:(w.alloc (.cells #[.bool nx,.int .i64 ex,.slice ax lx cx] 41)).heap.size=w.heap.size+1:=World.size_alloc _ _
 have hs2:((w.alloc (.cells #[.bool nx,.int .i64 ex,.slice ax lx cx] 41)).alloc (.cells #[.bool ny,.int .i64 ey,.slice ay ly cy] 41)).heap.size=w.heap.size+2:=by rw[World.size_alloc,hs1]
 have hs3:(((w.alloc (.cells #[.bool nx,.int .i64 ex,.slice ax lx cx] 41)).alloc (.cells #[.bool ny,.int .i64 ey,.slice ay ly cy] 41)).alloc (.cells #[.bool false,.int .i64 0,.slice none 0 0] 41)).heap.size=w.heap.size+3:=by rw[World.size_alloc,hs2]
 have hb1:Below w.heap.size w (w.alloc (.cells #[.bool nx,.int .i64 ex,.slice ax lx cx] 41)):=(Below.refl _ _).alloc (Nat.le_refl _) _
 have hb2:Below (w.alloc (.cells #[.bool nx,.int .i64 ex,.slice ax lx cx] 41)).heap.size (w.alloc (.cells #[.bool nx,.int .i64 ex,.slice ax lx cx] 41)) ((w.alloc (.cells #[.bool nx,.int .i64 ex,.slice ax lx cx] 41)).alloc (.cells #[.bool ny,.int .i64 ey,.slice ay ly cy] 41)):=(Below.refl _ _).alloc (Nat.le_refl _) _
 have hb3:Below ((w.alloc (.cells #[.bool nx,.int .i64 ex,.slice ax lx cx] 41)).alloc (.cells #[.bool ny,.int .i64 ey,.slice ay ly cy] 41)).heap.size ((w.alloc (.cells #[.bool nx,.int .i64 ex,.slice ax lx cx] 41)).alloc (.cells #[.bool ny,.int .i64 ey,.slice ay ly cy] 41)) (((w.alloc (.cells #[.bool nx,.int .i64 ex,.slice ax lx cx] 41)).alloc (.cells #[.bool ny,.int .i64 ey,.slice ay ly cy] 41)).alloc (.cells #[.bool false,.int .i64 0,.slice none 0 0] 41)):=(Below.refl _ _).alloc (Nat.le_refl _) _
 have hX:Q05 (((w.alloc (.cells #[.bool nx,.int .i64 ex,.slice ax lx cx] 41)).alloc (.cells #[.bool ny,.int .i64 ey,.slice ay ly cy] 41)).alloc (.cells #[.bool false,.int .i64 0,.slice none 0 0] 41)) w.heap.size (.bool nx) (.int .i64 ex) (.slice ax lx cx):=((Q05.new w _ _ _ _).step hb2 (Q0f _ _)).step hb3 (by rw[hs2];omega)
 have hY:Q05 (((w.alloc (.cells #[.bool nx,.int .i64 ex,.slice ax lx cx] 41)).alloc (.cells #[.bool ny,.int .i64 ey,.slice ay ly cy] 41)).alloc (.cells #[.bool false,.int .i64 0,.slice none 0 0] 41)) (w.heap.size+1) (.bool ny) (.int .i64 ey) (.slice ay ly cy):=by
  have h:=(Q05.new (w.alloc (.cells #[.bool nx,.int .i64 ex,.slice ax lx cx] 41)) (.bool ny) (.int .i64 ey) (.slice ay ly cy) 41).step hb3 (Q0f _ _)
  rwa[hs1] at h
 have hR:Q05 (((w.alloc (.cells #[.bool nx,.int .i64 ex,.slice ax lx cx] 41)).alloc (.cells #[.bool ny,.int .i64 ey,.slice ay ly cy] 41)).alloc (.cells #[.bool false,.int .i64 0,.slice none 0 0] 41)) (w.heap.size+2) (.bool false) (.int .i64 0) (.slice none 0 0):=by
  have h:=Q05.new ((w.alloc (.cells #[.bool nx,.int .i64 ex,.slice ax lx cx] 41)).alloc (.cells #[.bool ny,.int .i64 ey,.slice ay ly cy] 41)) (.bool false) (.int .i64 0) (.slice none 0 0) 41
  rwa[hs2] at h
 have hB:Below w.heap.size w (((w.alloc (.cells #[.bool nx,.int .i64 ex,.slice ax lx cx] 41)).alloc (.cells #[.bool ny,.int .i64 ey,.slice ay ly cy] 41)).alloc (.cells #[.bool false,.int .i64 0,.slice none 0 0] 41)):=Below.next0 (Below.next0 hb1 hb2) hb3
 generalize hW0:(((w.alloc (.cells #[.bool nx,.int .i64 ex,.slice ax lx cx] 41)).alloc (.cells #[.bool ny,.int .i64 ey,.slice ay ly cy] 41)).alloc (.cells #[.bool false,.int .i64 0,.slice none 0 0] 41))=W0 at hs3 hX hY hR hB
 have hQ:∀W,Below W0.heap.size W0 W→Q05 W w.heap.size (.bool nx) (.int .i64 ex) (.slice ax lx cx)∧Q05 W (w.heap.size+1) (.bool ny) (.int .i64 ey) (.slice ay ly cy)∧Q05 W (w.heap.size+2) (.bool false) (.int .i64 0) (.slice none 0 0)∧w.heap.size+2<W.heap.size∧Below w.heap.size w W:=fun W hb=>
  ⟨hX.step hb (by omega),hY.step hb (by omega),hR.step hb (by omega),Nat.lt_of_lt_of_le (by omega) hb.size,Below.next0 hB hb⟩
 obtain ⟨hx0,hx1,hx2,_,_,_⟩:=hX
 obtain ⟨hy0,hy1,hy2,_,_,_⟩:=hY
 have HQ:=Lib.hid hQ
 have hlx:=h1.len
 have hly:=h2.len
 obtain ⟨b1,b2,b3⟩:=Q4u i1 h1.low
 obtain ⟨b4,b5,b6⟩:=Q4u i2 h2.low
 have hr1:=Q2a nx ex ax lx cx ls W0 (h1.step hB) (by omega) (by omega) (by omega)
 have hr2:=fun W (hb:Below w.heap.size w W)=>Q2a ny ey ay ly cy ks W (h2.step hb) (by omega) (by omega) (by omega)
 rw[decide_eq_true i1] at hr1
 simp only[decide_eq_true i2] at hr2
 have hml:=fun W (hb:Below w.heap.size w W)=>Qdm nx ex ax lx cx ls ny ey ay ly cy ks W (h1.step hb) (h2.step hb) (by omega) (by omega) (by omega) (by omega) (by omega) (by omega)
 have hmd:=Qg5 h1.low h2.low
 have HC:=Xh5 hr1 hr2 hml hmd hT
 clear hs1 hs2 hs3 hb1 hb2 hb3 hR hQ hr1 hr2 hml hmd hT h1 h2 i1 i2
 go_enter Tryz.func226,Tryz.ntmps226
 go_wp2_with (first
  |(go_at_call_of 53 ax;refine (Xo0 HC).mono ?_;rintro r w1 ⟨rfl,hb1⟩;obtain ⟨g0,g1,g2,g3,g4⟩:=HQ.out w1 hb1;have uc0:=g0.c0;have uc1:=g0.c1;have uc2:=g0.c2;have vc0:=g1.c0;have vc1:=g1.c1;have vc2:=g1.c2;have HA:=Xh2 hb1 g4;clear g0 g1 g2 g3 g4 hb1)
  |(go_at_call_of 53 ay;refine ((Xo1 HC) w1 (Xe1 HA)).mono ?_;rintro r w2 ⟨rfl,hb2⟩;have hb12:=Below.next0 (Xo0 HA) hb2;obtain ⟨g0,g1,g2,g3,g4⟩:=HQ.out w2 hb12;have pc0:=g0.c0;have pc1:=g0.c1;have pc2:=g0.c2;have qc0:=g1.c0;have qc1:=g1.c1;have qc2:=g1.c2;have HE:=Xh2 hb12 g4;clear g0 g1 g2 g3 g4 hb2 hb12)
  |(go_at_call_of 54 ax;refine ((Xo2 HC) w2 (Xe1 HE)).mono ?_;rintro r w3 ⟨a3,l3,c3,rfl,hW3,hb3⟩;have HF:=Xh3 hW3 (Below.next0 (Xo0 HE) hb3) (Below.next0 (Xe1 HE) hb3);clear hW3 hb3)
  |(go_at_call_of 232 (Value.bool (nx != ny));refine (Qon (nx != ny) (ex+ey) a3 l3 c3 _ w3 (Xo0 HF) ((Xe4 HC).step (Xe2 HF)) (by have:=(Xo0 HF).len;have:=(Xo3 HC);omega) (by omega) (by omega)).mono ?_;rintro r w4 ⟨n',e',a',l',c',L',er,rfl,hfo,hW4,hb4⟩;rw[Qm0] at hfo;have hb14:=Below.next0 (Xo1 HF) hb4;obtain ⟨g0,g1,g2,g3,g4⟩:=HQ.out w4 hb14;have rc0:=g2.c0;have rc1:=g2.c1;have rc2:=g2.c2;have rf0:=g2.f0;have rf1:=g2.f1;have rf2:=g2.f2;have rd1:=g2.d1 (.bool n');have rd2:=g2.d2 (.bool n') (.int .i64 e');have HM:=Xh4 hfo (hW4.lower (Xe2 HF).size) g2 g4;clear g0 g1 g2 g3 g4 hfo hW4 hb4 hb14))
 have hS:=(Xo2 HM).store (.bool n') (.int .i64 e') (.slice a' l' c')
 have k0:=hS.c0
 have k1:=hS.c1
 have k2:=hS.c2
 have hbz:=Q05.below (Xe3 HM) (show w.heap.size≤w.heap.size+2 by omega) (.bool n') (.int .i64 e') (.slice a' l' c')
 have hwz:=(Xo1 HM).set3 (Xo2 HM) (.bool n') (.int .i64 e') (.slice a' l' c')
 exact ⟨rfl,.tuple #[.agg #[.bool n',.int .i64 e',.slice a' l' c'],.int .i64 er],by simp[results,go_sem,k0,k1,k2],n',e',a',l',c',L',er,rfl,(Xo0 HM),(Xo1 HM).on hwz,hbz⟩
theorem Qj9 (nx:Bool) (ex:Int) (ax:Option Addr) (lx cx:Nat) (ls:List Nat) (ny:Bool) (ey:Int) (ay:Option Addr) (ly cy:Nat) (ks:List Nat) (w:World) (h1:WordsIn w ax lx cx ls) (h2:WordsIn w ay ly cy ks) (i1:Q0g nx ex ls) (i2:Q0g ny ey ks) (hT:Q25 w):
 Calls Tryz.prog 203 #[.agg #[.bool nx,.int .i64 ex,.slice ax lx cx],.agg #[.bool ny,.int .i64 ey,.slice ay ly cy]] w (Qly w (Q1z nx ex ls*Q1z ny ey ks)):=by
 have hs1:(w.alloc (.cells #[.bool nx,.int .i64 ex,.slice ax lx cx] 41)).heap.size=w.heap.size+1:=World.size_alloc _ _
 have hs2:((w.alloc (.cells #[.bool nx,.int .i64 ex,.slice ax lx cx] 41)).alloc (.cells #[.bool ny,.int .i64 ey,.slice ay ly cy] 41)).heap.size=w.heap.size+2:=by rw[World.size_alloc,hs1]
 have hs3:(((w.alloc (.cells #[.bool nx,.int .i64 ex,.slice ax lx cx] 41)).alloc (.cells #[.bool ny,.int .i64 ey,.slice ay ly cy] 41)).alloc (.cells #[.bool false,.int .i64 0,.slice none 0 0] 41)).heap.size=w.heap.size+3:=by rw[World.size_alloc,hs2]
 have hb1:Below w.heap.size w (w.alloc (.cells #[.bool nx,.int .i64 ex,.slice ax lx cx] 41)):=(Below.refl _ _).alloc (Nat.le_refl _) _
 have hb2:Below (w.alloc (.cells #[.bool nx,.int .i64 ex,.slice ax lx cx] 41)).heap.size (w.alloc (.cells #[.bool nx,.int .i64 ex,.slice ax lx cx] 41)) ((w.alloc (.cells #[.bool nx,.int .i64 ex,.slice ax lx cx] 41)).alloc (.cells #[.bool ny,.int .i64 ey,.slice ay ly cy] 41)):=(Below.refl _ _).alloc (Nat.le_refl _) _
 have hb3:Below ((w.alloc (.cells #[.bool nx,.int .i64 ex,.slice ax lx cx] 41)).alloc (.cells #[.bool ny,.int .i64 ey,.slice ay ly cy] 41)).heap.size ((w.alloc (.cells #[.bool nx,.int .i64 ex,.slice ax lx cx] 41)).alloc (.cells #[.bool ny,.int .i64 ey,.slice ay ly cy] 41)) (((w.alloc (.cells #[.bool nx,.int .i64 ex,.slice ax lx cx] 41)).alloc (.cells #[.bool ny,.int .i64 ey,.slice ay ly cy] 41)).alloc (.cells #[.bool false,.int .i64 0,.slice none 0 0] 41)):=(Below.refl _ _).alloc (Nat.le_refl _) _
 have hX:Q05 (((w.alloc (.cells #[.bool nx,.int .i64 ex,.slice ax lx cx] 41)).alloc (.cells #[.bool ny,.int .i64 ey,.slice ay ly cy] 41)).alloc (.cells #[.bool false,.int .i64 0,.slice none 0 0] 41)) w.heap.size (.bool nx) (.int .i64 ex) (.slice ax lx cx):=((Q05.new w _ _ _ _).step hb2 (Q0f _ _)).step hb3 (by rw[hs2];omega)
 have hY:Q05 (((w.alloc (.cells #[.bool nx,.int .i64 ex,.slice ax lx cx] 41)).alloc (.cells #[.bool ny,.int .i64 ey,.slice ay ly cy] 41)).alloc (.cells #[.bool false,.int .i64 0,.slice none 0 0] 41)) (w.heap.size+1) (.bool ny) (.int .i64 ey) (.slice ay ly cy):=by
  have h:=(Q05.new (w.alloc (.cells #[.bool nx,.int .i64 ex,.slice ax lx cx] 41)) (.bool ny) (.int .i64 ey) (.slice ay ly cy) 41).step hb3 (Q0f _ _)
  rwa[hs1] at h
 have hR:Q05 (((w.alloc (.cells #[.bool nx,.int .i64 ex,.slice ax lx cx] 41)).alloc (.cells #[.bool ny,.int .i64 ey,.slice ay ly cy] 41)).alloc (.cells #[.bool false,.int .i64 0,.slice none 0 0] 41)) (w.heap.size+2) (.bool false) (.int .i64 0) (.slice none 0 0):=by
  have h:=Q05.new ((w.alloc (.cells #[.bool nx,.int .i64 ex,.slice ax lx cx] 41)).alloc (.cells #[.bool ny,.int .i64 ey,.slice ay ly cy] 41)) (.bool false) (.int .i64 0) (.slice none 0 0) 41
  rwa[hs2] at h
 have hB:Below w.heap.size w (((w.alloc (.cells #[.bool nx,.int .i64 ex,.slice ax lx cx] 41)).alloc (.cells #[.bool ny,.int .i64 ey,.slice ay ly cy] 41)).alloc (.cells #[.bool false,.int .i64 0,.slice none 0 0] 41)):=Below.next0 (Below.next0 hb1 hb2) hb3
 generalize hW0:(((w.alloc (.cells #[.bool nx,.int .i64 ex,.slice ax lx cx] 41)).alloc (.cells #[.bool ny,.int .i64 ey,.slice ay ly cy] 41)).alloc (.cells #[.bool false,.int .i64 0,.slice none 0 0] 41))=W0 at hs3 hX hY hR hB
 have hQ:∀W,Below W0.heap.size W0 W→Q05 W w.heap.size (.bool nx) (.int .i64 ex) (.slice ax lx cx)∧Q05 W (w.heap.size+1) (.bool ny) (.int .i64 ey) (.slice ay ly cy)∧Q05 W (w.heap.size+2) (.bool false) (.int .i64 0) (.slice none 0 0)∧w.heap.size+2<W.heap.size∧Below w.heap.size w W:=fun W hb=>
  ⟨hX.step hb (by omega),hY.step hb (by omega),hR.step hb (by omega),Nat.lt_of_lt_of_le (by omega) hb.size,Below.next0 hB hb⟩
 obtain ⟨hx0,hx1,hx2,_,_,_⟩:=hX
 obtain ⟨hy0,hy1,hy2,_,_,_⟩:=hY
 have HQ:=Lib.hid hQ
 have hbt:=Qg6 nx ex ax lx cx ls ny ey ay ly cy ks W0 (h1.step hB) (h2.step hB) i1 i2 (hT.step hB)
 have HC:=Lib.hid hbt
 clear hs1 hs2 hs3 hb1 hb2 hb3 hR hQ hbt hT h1 h2 i1 i2
 go_enter Tryz.func203,Tryz.ntmps203
 go_wp2_with (go_at_call_of 226 ax;refine HC.out.mono ?_;rintro r w1 ⟨n',e',a',l',c',L',er,rfl,hfo,hW1,hb1⟩;obtain ⟨g0,g1,g2,g3,g4⟩:=HQ.out w1 hb1;have rc0:=g2.c0;have rc1:=g2.c1;have rc2:=g2.c2;have rf0:=g2.f0;have rf1:=g2.f1;have rf2:=g2.f2;have rd1:=g2.d1 (.bool n');have rd2:=g2.d2 (.bool n') (.int .i64 e');have HM:=Xh4 hfo (hW1.lower (HQ.out W0 (Below.refl _ _)).2.2.2.2.size) g2 g4;clear g0 g1 g2 g3 g4 hfo hW1 hb1)
 have hS:=(Xo2 HM).store (.bool n') (.int .i64 e') (.slice a' l' c')
 have k0:=hS.c0
 have k1:=hS.c1
 have k2:=hS.c2
 have hbz:=Q05.below (Xe3 HM) (show w.heap.size≤w.heap.size+2 by omega) (.bool n') (.int .i64 e') (.slice a' l' c')
 have hwz:=(Xo1 HM).set3 (Xo2 HM) (.bool n') (.int .i64 e') (.slice a' l' c')
 exact ⟨rfl,.tuple #[.agg #[.bool n',.int .i64 e',.slice a' l' c'],.int .i64 er],by simp[results,go_sem,k0,k1,k2],n',e',a',l',c',L',er,rfl,(Xo0 HM),(Xo1 HM).on hwz,hbz⟩
def Q2j:List Int→List Int→Int
 |[],[]=>0
 |[],_::_=> -1
 |_::_,[]=>1
 |a::xs,b::bs=>if a<b then -1 else if b<a then 1 else Q2j xs bs
theorem Q5n:∀(a b:List Int),Q2j a b=0↔a=b
 |[],[]=>by simp[Q2j]
 |[],_::_=>by simp[Q2j]
 |_::_,[]=>by simp[Q2j]
 |a::xs,b::bs=>by
  have ih:=Q5n xs bs
  simp only[Q2j,List.cons.injEq]
  split
  ·constructor
   ·intro h;omega
   ·rintro ⟨rfl,_⟩;omega
  ·split
   ·constructor
    ·intro h;omega
    ·rintro ⟨rfl,_⟩;omega
   ·rw[ih]
    constructor
    ·intro h;exact ⟨by omega,h⟩
    ·exact fun h=>h.2
theorem Q9o (a:List Int):Q2j a a=0:=(Q5n a a).2 rfl
theorem Q2u:∀(a b:List Int),Q2j b a= -Q2j a b
 |[],[]=>rfl
 |[],_::_=>rfl
 |_::_,[]=>rfl
 |a::xs,b::bs=>by
  have ih:=Q2u xs bs
  simp only[Q2j]
  by_cases h1:a<b
  ·rw[if_neg (by omega),if_pos h1,if_pos h1];rfl
  ·by_cases h2:b<a
   ·rw[if_pos h2,if_neg h1,if_pos h2]
   ·rw[if_neg h2,if_neg h1,if_neg h1,if_neg h2,ih]
theorem Q4v:∀(a b c:List Int),0<Q2j a b→0<Q2j b c→0<Q2j a c
 |[],[],_=>fun h=>by simp[Q2j] at h
 |[],_::_,_=>fun h=>by simp[Q2j] at h
 |_::_,[],[]=>fun _ h=>by simp[Q2j] at h
 |_::_,[],_::_=>fun _ h=>by simp[Q2j] at h
 |_::_,_::_,[]=>fun _ _=>by simp[Q2j]
 |a::xs,b::bs,c::cs=>by
  have ih:=Q4v xs bs cs
  simp only[Q2j]
  intro h1 h2
  by_cases c1:a<b
  ·rw[if_pos c1] at h1;omega
  ·rw[if_neg c1] at h1
   by_cases c2:b<c
   ·rw[if_pos c2] at h2;omega
   ·rw[if_neg c2] at h2
    rw[if_neg (by omega)]
    by_cases c3:c<a
    ·rw[if_pos c3];omega
    ·rw[if_neg c3]
     rw[if_neg (by omega)] at h1
     rw[if_neg (by omega)] at h2
     exact ih h1 h2
abbrev Q0d:=Dyadic × List Int
def Q9p (l:List Q0d):Prop:=l.Pairwise fun p q=>0<Q2j p.2 q.2
def Q13 (E:List Int):List Q0d→Dyadic
 |[]=>0
 |p::r=>(if p.2=E then p.1 else 0)+Q13 E r
theorem Q6y (E:List Int) (l r:List Q0d):Q13 E (l++r)=Q13 E l+Q13 E r:=by
 induction l with
 |nil=>simp[Q13]
 |cons p l ih=>rw[List.cons_append,Q13,Q13,ih,Dyadic.add_assoc]
theorem Qg7 {E:List Int} {l:List Q0d} (h:∀p∈l,p.2≠E):Q13 E l=0:=by
 induction l with
 |nil=>rfl
 |cons p l ih=>
  rw[Q13,if_neg (h p (by simp)),ih fun q hq=>h q (by simp[hq])];rfl
theorem Q9p.tail_ne {p:Q0d} {l:List Q0d} (h:Q9p (p::l)):∀q∈l,q.2≠p.2:=fun q hq e=>by
 have:=(List.pairwise_cons.1 h).1 q hq
 rw[e,Q9o] at this
 omega
theorem Q3y {l:List Q0d} (hn:l.Pairwise fun p q=>p.2≠q.2) {p:Q0d} (h:p∈l):Q13 p.2 l=p.1:=by
 induction l with
 |nil=>cases h
 |cons q l ih=>
  obtain ⟨h1,h2⟩:=List.pairwise_cons.1 hn
  rcases List.mem_cons.1 h with rfl|h
  ·rw[Q13,if_pos rfl,Qg7 (fun r hr e=>h1 r hr e.symm),Dyadic.add_zero]
  ·rw[Q13,if_neg (h1 p h),ih h2 h,Dyadic.zero_add]
theorem Q9p.once {l:List Q0d} (h:Q9p l):l.Pairwise fun p q=>p.2≠q.2:=by
 unfold Q9p at h
 refine h.imp ?_
 intro p q h e
 rw[e,Q9o] at h
 omega
theorem Q9p.same:∀{l r:List Q0d},Q9p l→Q9p r→(∀p,p∈l↔p∈r)→l=r
 |[],[],_,_,_=>rfl
 |[],q::r,_,_,h=>by have:=(h q).2 (by simp);cases this
 |p::l,[],_,_,h=>by have:=(h p).1 (by simp);cases this
 |p::l,q::r,hl,hr,h=>by
  obtain ⟨l1,l2⟩:=List.pairwise_cons.1 hl
  obtain ⟨r1,r2⟩:=List.pairwise_cons.1 hr
  have hpq:p=q:=by
   have hp:=(h p).1 (by simp)
   have hq:=(h q).2 (by simp)
   rcases List.mem_cons.1 hp with e|hp
   ·exact e
   ·rcases List.mem_cons.1 hq with e|hq
    ·exact e.symm
    ·have a1:=l1 q hq
     have a2:=r1 p hp
     have a3:=Q2u p.2 q.2
     omega
  subst hpq
  congr 1
  refine Q9p.same l2 r2 fun x=>?_
  have hx:=h x
  constructor
  ·intro hxl
   rcases List.mem_cons.1 (hx.1 (by simp[hxl])) with e|h'
   ·subst e;exact absurd rfl (hl.tail_ne x hxl)
   ·exact h'
  ·intro hxr
   rcases List.mem_cons.1 (hx.2 (by simp[hxr])) with e|h'
   ·subst e;exact absurd rfl (hr.tail_ne x hxr)
   ·exact h'
def Q6e (l:List Q0d) (c:Q0d):List Q0d:=
 match l with
 |[]=>[c]
 |q::r=>if 0<Q2j q.2 c.2 then q::Q6e r c else if q.2=c.2 then (q.1+c.1,q.2)::r else c::q::r
def Q1g (l:List Q0d):List Q0d:=l.foldl Q6e []
theorem Qdo (l:List Q0d) (c:Q0d) (p:Q0d) (h:p∈Q6e l c):p∈l∨p.2=c.2:=by
 induction l with
 |nil=>simp only[Q6e,List.mem_singleton] at h;exact .inr (by rw[h])
 |cons q r ih=>
  simp only[Q6e] at h
  split at h
  ·rcases List.mem_cons.1 h with rfl|h
   ·exact .inl (by simp)
   ·rcases ih h with h|h
    ·exact .inl (by simp[h])
    ·exact .inr h
  ·split at h
   ·rename_i h2
    rcases List.mem_cons.1 h with rfl|h
    ·exact .inr h2
    ·exact .inl (by simp[h])
   ·rcases List.mem_cons.1 h with rfl|h
    ·exact .inr rfl
    ·exact .inl h
theorem Qm1 {l:List Q0d} (h:Q9p l) (c:Q0d):Q9p (Q6e l c):=by
 induction l with
 |nil=>simp[Q6e,Q9p]
 |cons q r ih=>
  obtain ⟨h1,h2⟩:=List.pairwise_cons.1 h
  simp only[Q6e]
  split
  ·rename_i hc
   refine List.pairwise_cons.2 ⟨fun p hp=>?_,ih h2⟩
   rcases Qdo r c p hp with hp|hp
   ·exact h1 p hp
   ·rw[hp];exact hc
  ·split
   ·exact List.pairwise_cons.2 ⟨h1,h2⟩
   ·rename_i hc1 hc2
    have h0:0<Q2j c.2 q.2:=by
     have a1:=Q2u q.2 c.2
     have a2:Q2j q.2 c.2≠0:=fun e=>hc2 ((Q5n _ _).1 e)
     omega
    refine List.pairwise_cons.2 ⟨fun p hp=>?_,h⟩
    rcases List.mem_cons.1 hp with rfl|hp
    ·exact h0
    ·exact Q4v _ _ _ h0 (h1 p hp)
theorem Qm2 (E:List Int) (l:List Q0d) (c:Q0d):Q13 E (Q6e l c)=Q13 E l+Q13 E [c]:=by
 induction l with
 |nil=>simp[Q6e,Q13]
 |cons q r ih=>
  simp only[Q6e]
  split
  ·simp only[Q13,ih,Dyadic.add_assoc]
  ·split
   ·rename_i h2
    simp only[Q13,Dyadic.add_zero]
    rw[←h2]
    by_cases hq:q.2=E
    ·rw[if_pos hq,if_pos hq,if_pos hq];grind
    ·rw[if_neg hq,if_neg hq,if_neg hq];grind
   ·simp only[Q13,Dyadic.add_zero];grind
theorem Qoo (l:List Q0d) (c:Q0d):(∃p∈Q6e l c,p.2=c.2)∧∀p∈l,∃q∈Q6e l c,q.2=p.2:=by
 induction l with
 |nil=>exact ⟨⟨c,by simp[Q6e],rfl⟩,fun p hp=>(by cases hp)⟩
 |cons q r ih=>
  obtain ⟨⟨x,hx,hx2⟩,ih2⟩:=ih
  simp only[Q6e]
  split
  ·refine ⟨⟨x,by simp[hx],hx2⟩,fun p hp=>?_⟩
   rcases List.mem_cons.1 hp with rfl|hp
   ·exact ⟨p,by simp,rfl⟩
   ·obtain ⟨y,hy,hy2⟩:=ih2 p hp
    exact ⟨y,by simp[hy],hy2⟩
  ·split
   ·rename_i h2
    refine ⟨⟨_,List.mem_cons_self,h2⟩,fun p hp=>?_⟩
    rcases List.mem_cons.1 hp with rfl|hp
    ·exact ⟨_,List.mem_cons_self,rfl⟩
    ·exact ⟨p,by simp[hp],rfl⟩
   ·exact ⟨⟨c,by simp,rfl⟩,fun p hp=>⟨p,by simp only[List.mem_cons] at hp⊢;exact .inr hp,rfl⟩⟩
theorem Q60 (l:List Q0d) (c:Q0d):Q1g (l++[c])=Q6e (Q1g l) c:=by simp[Q1g]
theorem Q5c (l:List Q0d):Q9p (Q1g l)∧(∀E,Q13 E (Q1g l)=Q13 E l)∧(∀p∈Q1g l,∃q∈l,q.2=p.2)∧(∀p∈l,∃q∈Q1g l,q.2=p.2):=by
 have key:∀n,∀l:List Q0d,l.length=n→Q9p (Q1g l)∧(∀E,Q13 E (Q1g l)=Q13 E l)∧(∀p∈Q1g l,∃q∈l,q.2=p.2)∧(∀p∈l,∃q∈Q1g l,q.2=p.2):=by
  intro n
  induction n with
  |zero=>
   intro l hl
   obtain rfl:=List.length_eq_zero_iff.1 hl
   exact ⟨List.Pairwise.nil,fun _=>rfl,fun p hp=>(by cases hp),fun p hp=>(by cases hp)⟩
  |succ n ih=>
   intro l hl
   have hne:l≠[]:=fun e=>by rw[e] at hl;simp at hl
   obtain ⟨k,c,rfl⟩:∃k c,l=k++[c]:=⟨l.dropLast,l.getLast hne,(List.dropLast_concat_getLast hne).symm⟩
   obtain ⟨h1,h2,h3,h4⟩:=ih k (by simpa using hl)
   rw[Q60]
   refine ⟨Qm1 h1 c,fun E=>by rw[Qm2,h2,Q6y],fun p hp=>?_,fun p hp=>?_⟩
   ·rcases Qdo _ c p hp with hp|hp
    ·obtain ⟨q,hq,hq2⟩:=h3 p hp
     exact ⟨q,by simp[hq],hq2⟩
    ·exact ⟨c,by simp,hp.symm⟩
   ·obtain ⟨i1,i2⟩:=Qoo (Q1g k) c
    rcases List.mem_append.1 hp with hp|hp
    ·obtain ⟨q,hq,hq2⟩:=h4 p hp
     obtain ⟨r,hr,hr2⟩:=i2 q hq
     exact ⟨r,hr,hr2.trans hq2⟩
    ·rw[List.mem_singleton] at hp;subst hp;exact i1
 exact key _ l rfl
theorem Qhq (l:List Q0d) (p:Q0d):p∈Q1g l↔(∃q∈l,q.2=p.2)∧p.1=Q13 p.2 l:=by
 obtain ⟨h1,h2,h3,h4⟩:=Q5c l
 constructor
 ·intro hp
  exact ⟨h3 p hp,by rw[←h2,Q3y h1.once hp]⟩
 ·rintro ⟨⟨q,hq,hq2⟩,hp⟩
  obtain ⟨r,hr,hr2⟩:=h4 q hq
  have h5:=Q3y h1.once hr
  rw[h2] at h5
  have h6:r=p:=by
   obtain ⟨r1,r2⟩:=r
   obtain ⟨p1,p2⟩:=p
   simp only at hr2 h5 hp hq2
   rw[hq2] at hr2
   subst hr2
   rw[←h5,←hp]
  rw[←h6];exact hr
theorem Qm3 {l:List Q0d} (h:Q9p l):Q1g l=l:=by
 refine Q9p.same (Q5c l).1 h fun p=>?_
 rw[Qhq]
 constructor
 ·rintro ⟨⟨q,hq,hq2⟩,hp⟩
  have h5:=Q3y h.once hq
  rw[hq2] at h5
  have:q=p:=by
   obtain ⟨q1,q2⟩:=q;obtain ⟨p1,p2⟩:=p
   simp only at hq2 h5 hp
   subst hq2
   rw[hp,h5]
  rw[←this];exact hq
 ·intro hp;exact ⟨⟨p,hp,rfl⟩,(Q3y h.once hp).symm⟩
def Q4o (l:List Q0d) (c:Q0d):List Q0d:=
 match l with
 |[]=>[c]
 |q::r=>if q.2=c.2 then (q.1+c.1,q.2)::r else q::Q4o r c
def Q87 (l:List Q0d):List Q0d:=l.foldl Q4o []
theorem Qdp (l:List Q0d) (c:Q0d):Q87 (l++[c])=Q4o (Q87 l) c:=by simp[Q87]
theorem Qja (E:List Int) (l:List Q0d) (c:Q0d):Q13 E (Q4o l c)=Q13 E l+Q13 E [c]:=by
 induction l with
 |nil=>simp[Q4o,Q13]
 |cons q r ih=>
  simp only[Q4o]
  split
  ·rename_i h2
   simp only[Q13,Dyadic.add_zero]
   rw[←h2]
   by_cases hq:q.2=E
   ·rw[if_pos hq,if_pos hq,if_pos hq];grind
   ·rw[if_neg hq,if_neg hq,if_neg hq];grind
  ·simp only[Q13,ih,Dyadic.add_assoc]
theorem Qb3 (l:List Q0d) (c:Q0d) (p:Q0d) (h:p∈Q4o l c):(∃q∈l,q.2=p.2)∨p.2=c.2:=by
 induction l with
 |nil=>simp only[Q4o,List.mem_singleton] at h;exact .inr (by rw[h])
 |cons q r ih=>
  simp only[Q4o] at h
  split at h
  ·rename_i h2
   rcases List.mem_cons.1 h with rfl|h
   ·exact .inr h2
   ·exact .inl ⟨p,by simp[h],rfl⟩
  ·rcases List.mem_cons.1 h with rfl|h
   ·exact .inl ⟨p,by simp,rfl⟩
   ·rcases ih h with ⟨x,hx,hx2⟩|h
    ·exact .inl ⟨x,by simp[hx],hx2⟩
    ·exact .inr h
theorem Qm4 (l:List Q0d) (c:Q0d):(∃p∈Q4o l c,p.2=c.2)∧∀p∈l,∃q∈Q4o l c,q.2=p.2:=by
 induction l with
 |nil=>exact ⟨⟨c,by simp[Q4o],rfl⟩,fun p hp=>(by cases hp)⟩
 |cons q r ih=>
  obtain ⟨⟨x,hx,hx2⟩,ih2⟩:=ih
  simp only[Q4o]
  split
  ·rename_i h2
   refine ⟨⟨_,List.mem_cons_self,h2⟩,fun p hp=>?_⟩
   rcases List.mem_cons.1 hp with rfl|hp
   ·exact ⟨_,List.mem_cons_self,rfl⟩
   ·exact ⟨p,by simp[hp],rfl⟩
  ·refine ⟨⟨x,by simp[hx],hx2⟩,fun p hp=>?_⟩
   rcases List.mem_cons.1 hp with rfl|hp
   ·exact ⟨p,by simp,rfl⟩
   ·obtain ⟨y,hy,hy2⟩:=ih2 p hp
    exact ⟨y,by simp[hy],hy2⟩
theorem Qjb {l:List Q0d} (h:l.Pairwise fun p q=>p.2≠q.2) (c:Q0d):(Q4o l c).Pairwise fun p q=>p.2≠q.2:=by
 induction l with
 |nil=>simp[Q4o]
 |cons q r ih=>
  obtain ⟨h1,h2⟩:=List.pairwise_cons.1 h
  simp only[Q4o]
  split
  ·exact List.pairwise_cons.2 ⟨h1,h2⟩
  ·rename_i hc
   refine List.pairwise_cons.2 ⟨fun p hp=>?_,ih h2⟩
   rcases Qb3 r c p hp with ⟨x,hx,hx2⟩|hp
   ·rw[←hx2];exact h1 x hx
   ·rw[hp];exact hc
theorem Qm5 (l:List Q0d):((Q87 l).Pairwise fun p q=>p.2≠q.2)∧(∀E,Q13 E (Q87 l)=Q13 E l)∧(∀p∈Q87 l,∃q∈l,q.2=p.2)∧(∀p∈l,∃q∈Q87 l,q.2=p.2):=by
 have key:∀n,∀l:List Q0d,l.length=n→((Q87 l).Pairwise fun p q=>p.2≠q.2)∧(∀E,Q13 E (Q87 l)=Q13 E l)∧(∀p∈Q87 l,∃q∈l,q.2=p.2)∧(∀p∈l,∃q∈Q87 l,q.2=p.2):=by
  intro n
  induction n with
  |zero=>
   intro l hl
   obtain rfl:=List.length_eq_zero_iff.1 hl
   exact ⟨List.Pairwise.nil,fun _=>rfl,fun p hp=>(by cases hp),fun p hp=>(by cases hp)⟩
  |succ n ih=>
   intro l hl
   have hne:l≠[]:=fun e=>by rw[e] at hl;simp at hl
   obtain ⟨k,c,rfl⟩:∃k c,l=k++[c]:=⟨l.dropLast,l.getLast hne,(List.dropLast_concat_getLast hne).symm⟩
   obtain ⟨h1,h2,h3,h4⟩:=ih k (by simpa using hl)
   rw[Qdp]
   refine ⟨Qjb h1 c,fun E=>by rw[Qja,h2,Q6y],fun p hp=>?_,fun p hp=>?_⟩
   ·rcases Qb3 _ c p hp with ⟨x,hx,hx2⟩|hp
    ·obtain ⟨q,hq,hq2⟩:=h3 x hx
     exact ⟨q,by simp[hq],hq2.trans hx2⟩
    ·exact ⟨c,by simp,hp.symm⟩
   ·obtain ⟨i1,i2⟩:=Qm4 (Q87 k) c
    rcases List.mem_append.1 hp with hp|hp
    ·obtain ⟨q,hq,hq2⟩:=h4 p hp
     obtain ⟨r,hr,hr2⟩:=i2 q hq
     exact ⟨r,hr,hr2.trans hq2⟩
    ·rw[List.mem_singleton] at hp;subst hp;exact i1
 exact key _ l rfl
theorem Qr4 (l:List Q0d) (p:Q0d):p∈Q87 l↔(∃q∈l,q.2=p.2)∧p.1=Q13 p.2 l:=by
 obtain ⟨h1,h2,h3,h4⟩:=Qm5 l
 constructor
 ·intro hp
  exact ⟨h3 p hp,by rw[←h2,Q3y h1 hp]⟩
 ·rintro ⟨⟨q,hq,hq2⟩,hp⟩
  obtain ⟨r,hr,hr2⟩:=h4 q hq
  have h5:=Q3y h1 hr
  rw[h2] at h5
  have h6:r=p:=by
   obtain ⟨r1,r2⟩:=r
   obtain ⟨p1,p2⟩:=p
   simp only at hr2 h5 hp hq2
   rw[hq2] at hr2
   subst hr2
   rw[←h5,←hp]
  rw[←h6];exact hr
theorem Qc6 (l:List Q0d) (p:Q0d):p∈Q87 l↔p∈Q1g l:=by rw[Qr4,Qhq]
def Q7n:Dyadic→Bool
 | .zero=>true
 | .ofOdd n k _=>decide (n.natAbs<(2^64)^64) && (decide (-65536≤-k) && decide (-k≤65536))
theorem Q1m (d:Dyadic):Q7n d=true↔Q5m d:=by
 cases d with
 |zero=>exact ⟨fun _=>.inl rfl,fun _=>rfl⟩
 |ofOdd n k h=>
  have e:Dyadic.ofOdd n k h=dy n (-k):=by rw[Q9k h,Int.neg_neg]
  constructor
  ·intro hb
   simp only[Q7n,Bool.and_eq_true,decide_eq_true_eq] at hb
   exact .inr ⟨n,-k,e,h,hb.1,hb.2.1,hb.2.2⟩
  ·rintro (h0|⟨m,f,h1,hm,h2,h3,h4⟩)
   ·exact absurd h0 Dyadic.of_ne_zero
   ·rw[e] at h1
    obtain ⟨rfl,hk⟩:=Qlt h hm h1
    simp only[Q7n,Bool.and_eq_true,decide_eq_true_eq]
    exact ⟨h2,by omega,by omega⟩
theorem Qc7 (d:Dyadic):Q7n d=false↔¬Q5m d:=by
 rw[←Q1m];simp
theorem Q9q:Q5m 0:=.inl rfl
theorem Qop {d:Dyadic} (h:Q5m d):Q5m (-d):=by
 rcases h with rfl|⟨m,e,rfl,h1,h2,h3⟩
 ·exact .inl rfl
 ·exact .inr ⟨-m,e,Qls m e,by omega,by omega,h3⟩
def Q1o (l:List Q0d):Except Int (List Q0d):=
 if (Q1g l).any (fun p=> !Q7n p.1)=true then .error 2
 else if 24<((Q1g l).filter fun p=>decide (p.1≠0)).length then .error 6
 else .ok ((Q1g l).filter fun p=>decide (p.1≠0))
def Q0o (n:Nat) (E:List Int):Prop:=E.length=n∧(∀x∈E,0≤x)∧E.sum≤8
instance (n:Nat) (E:List Int):Decidable (Q0o n E):=by unfold Q0o;infer_instance
def Qb4 (n:Nat) (p:Q0d):Prop:=Q5m p.1∧Q0o n p.2
def Q3c (n:Nat) (P:List Q0d):Prop:=Q9p P∧P.length≤24∧∀p∈P,p.1≠0∧Qb4 n p
theorem Qjc {n:Nat} {l P:List Q0d} (hl:∀p∈l,Q0o n p.2) (h:Q1o l=.ok P):Q3c n P:=by
 unfold Q1o at h
 split at h
 ·cases h
 ·rename_i ha
  split at h
  ·cases h
  ·rename_i hlen
   injection h with h
   subst h
   obtain ⟨h1,_,h3,_⟩:=Q5c l
   refine ⟨List.Pairwise.filter _ h1,by omega,fun p hp=>?_⟩
   obtain ⟨hm,hz⟩:=List.mem_filter.1 hp
   refine ⟨by simpa using hz,?_,?_⟩
   ·rw[←Q1m]
    cases hf:Q7n p.1 with
    |true=>rfl
    |false=>
     exfalso
     refine ha ?_
     rw[List.any_eq_true]
     exact ⟨p,hm,by rw[hf];rfl⟩
   ·obtain ⟨q,hq,hq2⟩:=h3 p hm
    rw[←hq2];exact hl q hq
theorem Qdq {n:Nat} {P:List Q0d} (h:Q3c n P):P.filter (fun p=>decide (p.1≠0))=P:=by
 rw[List.filter_eq_self]
 intro p hp
 simpa using (h.2.2 p hp).1
theorem Qdr {n:Nat} {P:List Q0d} (h:Q3c n P):Q1o P=.ok P:=by
 unfold Q1o
 rw[Qm3 h.1,Qdq h,if_neg,if_neg (by have:=h.2.1;omega)]
 intro ha
 obtain ⟨p,hp,hf⟩:=List.any_eq_true.1 ha
 have:=(Q1m p.1).2 (h.2.2 p hp).2.1
 rw[this] at hf
 cases hf
def Qoq (a b:List Q0d):Except Int (List Q0d):=Q1o (a++b)
def Q6z (a:List Q0d):List Q0d:=a.map fun p=>(-p.1,p.2)
def Qkt (P:List Q0d):Int:=P.foldl (fun d p=>max d p.2.sum) 0
theorem Qhr (P:List Q0d) (d:Int):d≤P.foldl (fun d p=>max d p.2.sum) d∧∀p∈P,p.2.sum≤P.foldl (fun d p=>max d p.2.sum) d:=by
 induction P generalizing d with
 |nil=>exact ⟨Int.le_refl _,fun p hp=>by cases hp⟩
 |cons q P ih=>
  obtain ⟨h1,h2⟩:=ih (max d q.2.sum)
  rw[List.foldl_cons]
  refine ⟨by omega,fun p hp=>?_⟩
  rcases List.mem_cons.1 hp with rfl|hp
  ·omega
  ·exact h2 p hp
theorem Qm6 {P:List Q0d} {p:Q0d} (h:p∈P):p.2.sum≤Qkt P:=(Qhr P 0).2 p h
theorem Qr5 (P:List Q0d):0≤Qkt P:=(Qhr P 0).1
def Qr6 (a b:Q0d):Q0d:=(a.1*b.1,List.zipWith (·+·) a.2 b.2)
def Qc8 (a b:List Q0d):List Q0d:=a.flatMap fun x=>b.map (Qr6 x)
def Qds (a b:List Q0d):Except Int (List Q0d):=
 if a≠[]∧b≠[]∧8<Qkt a+Qkt b then .error 6
 else if (Qc8 a b).any (fun p=> !Q7n p.1)=true then .error 2
 else Q1o (Qc8 a b)
theorem Qg8:∀(x y:List Int),x.length=y.length→(List.zipWith (·+·) x y).sum=x.sum+y.sum
 |[],[],_=>rfl
 |a::x,b::y,h=>by
  have:=Qg8 x y (by simpa using h)
  simp only[List.zipWith_cons_cons,List.sum_cons,this]
  omega
theorem Qg9:∀(x y:List Int),(∀a∈x,0≤a)→(∀a∈y,0≤a)→∀a∈List.zipWith (·+·) x y,0≤a
 |[],_,_,_,a,h=>by simp at h
 |_::_,[],_,_,a,h=>by simp at h
 |a::x,b::y,hx,hy,c,h=>by
  rw[List.zipWith_cons_cons] at h
  rcases List.mem_cons.1 h with rfl|h
  ·have:=hx a (by simp);have:=hy b (by simp);omega
  ·exact Qg9 x y (fun z hz=>hx z (by simp[hz])) (fun z hz=>hy z (by simp[hz])) c h
theorem Qjd {n:Nat} {a b:List Q0d} (ha:Q3c n a) (hb:Q3c n b) (hd:¬(a≠[]∧b≠[]∧8<Qkt a+Qkt b)):∀p∈Qc8 a b,Q0o n p.2:=by
 intro p hp
 obtain ⟨x,hx,hp⟩:=List.mem_flatMap.1 hp
 obtain ⟨y,hy,rfl⟩:=List.mem_map.1 hp
 obtain ⟨_,_,hx1,hx2,hx3⟩:=ha.2.2 x hx
 obtain ⟨_,_,hy1,hy2,hy3⟩:=hb.2.2 y hy
 refine ⟨by simp[Qr6,hx1,hy1],Qg9 _ _ hx2 hy2,?_⟩
 show (List.zipWith (·+·) x.2 y.2).sum≤8
 rw[Qg8 _ _ (hx1.trans hy1.symm)]
 have h1:=Qm6 hx
 have h2:=Qm6 hy
 have h3:¬8<Qkt a+Qkt b:=fun h=>hd ⟨fun e=>(by rw[e] at hx;cases hx),fun e=>(by rw[e] at hy;cases hy),h⟩
 omega
def Qga (p:List Q0d):Nat→Except Int (List Q0d)
 |0=>.ok p
 |k+1=>match Qga p k with
  | .error e=>.error e
  | .ok q=>Qds q p
def Qhs (n:Nat) (p:List Q0d) (k:Nat):Except Int (List Q0d):=
 match k with
 |0=>.ok [(1,List.replicate n 0)]
 |k+1=>Qga p k
inductive Ex where
 |num (c:Option Dyadic)
 |var (i:Nat)
 |sum (l:List (Bool × Ex))
 |prod (l:List Ex)
 |pow (b:Ex) (k:Nat)
def Q8i (n i:Nat):List Int:=(List.replicate n 0).set i 1
mutual
def Q1r (n:Nat):Ex→Except Int (List Q0d)
 | .num none=>.error 2
 | .num (some c)=>Q1o [(c,List.replicate n 0)]
 | .var i=>Q1o [(1,Q8i n i)]
 | .sum l=>Q3t n none l
 | .prod l=>Q3n n none l
 | .pow b k=>match Q1r n b with
   | .error e=>.error e
   | .ok p=>Qhs n p k
def Q3t (n:Nat) (acc:Option (List Q0d)):List (Bool × Ex)→Except Int (List Q0d)
 |[]=>.ok (acc.getD [])
 |(b,t)::r=>match Q1r n t with
  | .error e=>.error e
  | .ok p=>match acc with
    |none=>Q3t n (some (if b then Q6z p else p)) r
    |some q=>match Qoq q (if b then Q6z p else p) with
     | .error e=>.error e
     | .ok q'=>Q3t n (some q') r
def Q3n (n:Nat) (acc:Option (List Q0d)):List Ex→Except Int (List Q0d)
 |[]=>.ok (acc.getD [])
 |t::r=>match Q1r n t with
  | .error e=>.error e
  | .ok p=>match acc with
    |none=>Q3n n (some p) r
    |some q=>match Qds q p with
     | .error e=>.error e
     | .ok q'=>Q3n n (some q') r
end
end Go.Proofs.YtdilmfakkppgpaaGreatDoor
namespace Go.Proofs.YtdilmfakkppgpaaGreatDoor
open Go.RowKit WordsM DecM
def Q08 (s:List UInt8) (p:Nat):UInt8:=s.getD p 0
theorem Q4w {s:List UInt8} {p:Nat} (h:Q08 s p≠0):p<s.length:=by
 refine Nat.lt_of_not_le fun hle=>h ?_
 unfold Q08
 rw[List.getD_eq_getElem?_getD,List.getElem?_eq_none hle];rfl
theorem Q0i {s:List UInt8} {p:Nat} {c:UInt8} (h:Q08 s p=c) (hc:c≠0):p<s.length:=Q4w (by rw[h];exact hc)
def Q6f:List UInt8→Nat
 |[]=>0
 |c::r=>if c=32 then Q6f r+1 else 0
def Q06 (s:List UInt8) (p:Nat):Nat:=p+Q6f (s.drop p)
theorem Qht:∀l,Q6f l≤l.length
 |[]=>Nat.le_refl _
 |c::r=>by
  have:=Qht r
  simp only[Q6f,List.length_cons]
  split <;> omega
theorem Q4p (s:List UInt8) (p:Nat):p≤Q06 s p:=Nat.le_add_right _ _
theorem Q2g {s:List UInt8} {p:Nat} (h:p≤s.length):Q06 s p≤s.length:=by
 have:=Qht (s.drop p)
 rw[List.length_drop] at this
 unfold Q06;omega
theorem Q4x {s:List UInt8} {p:Nat} (h:Q08 s p=32):Q06 s p=Q06 s (p+1):=by
 have hp:=Q0i h (by decide)
 unfold Q06
 rw[List.drop_eq_getElem_cons hp]
 have hc:s[p]=32:=by
  unfold Q08 at h
  rw[List.getD_eq_getElem?_getD,List.getElem?_eq_getElem hp] at h
  exact h
 rw[Q6f,if_pos hc];omega
theorem Q5o {s:List UInt8} {p:Nat} (h:Q08 s p≠32):Q06 s p=p:=by
 unfold Q06
 by_cases hp:p<s.length
 ·rw[List.drop_eq_getElem_cons hp]
  have hc:s[p]≠32:=by
   unfold Q08 at h
   rw[List.getD_eq_getElem?_getD,List.getElem?_eq_getElem hp] at h
   exact h
  rw[Q6f,if_neg hc];rfl
 ·rw[List.drop_of_length_le (by omega)];rfl
theorem Q70 (s:List UInt8) (p:Nat):Q06 s (Q06 s p)=Q06 s p:=by
 have key:∀n p,s.length-p=n→Q06 s (Q06 s p)=Q06 s p:=by
  intro n
  induction n using Nat.strongRecOn with
  |ind n ih=>
   intro p hn
   by_cases h:Q08 s p=32
   ·have hp:=Q0i h (by decide)
    rw[Q4x h]
    exact ih (s.length-(p+1)) (by omega) (p+1) rfl
   ·rw[Q5o h,Q5o h]
 exact key _ p rfl
abbrev PR (α:Type):=Except Nat (α × Nat)
def Q18 (s:List UInt8) (p:Nat):Nat:=p+digN (s.drop p)
theorem Q9r {s:List UInt8} {p:Nat} (h:p≤s.length):p≤Q18 s p∧Q18 s p≤s.length:=by
 have:=Qc1 (s.drop p)
 rw[List.length_drop] at this
 unfold Q18;omega
def Q8j (s:List UInt8) (p:Nat):Nat:=
 if Q08 s (Q18 s p)=112 then (if Q08 s (Q18 s p+1)=45 then Q18 s (Q18 s p+2) else Q18 s (Q18 s p+1)) else Q18 s p
theorem Qqc {s:List UInt8} {p:Nat} (h:p≤s.length):Q18 s p≤Q8j s p∧Q8j s p≤s.length:=by
 have h1:=Q9r h
 unfold Q8j
 split
 ·rename_i h2
  have h3:=Q0i h2 (by decide)
  split
  ·rename_i h4
   have h5:=Q0i h4 (by decide)
   have:=Q9r (s:=s) (p:=Q18 s p+2) (by omega)
   omega
  ·have:=Q9r (s:=s) (p:=Q18 s p+1) (by omega)
   omega
 ·omega
def Qgb (s:List UInt8) (p:Nat):PR Ex:=
 match form ((s.drop p).take (Q8j s p-p)) with
 |none=>.error p
 |some (neg,v,e)=>.ok (.num (if Q7n (dy (sgn neg v) e)=true then some (dy (sgn neg v) e) else none),Q8j s p)
def Q4y (sub:Nat→PR Ex) (opens:Bool) (s:List UInt8) (most:Nat) (p0:Nat):PR Ex:=
 if 48≤(Q08 s (Q06 s p0)).toNat∧(Q08 s (Q06 s p0)).toNat≤57 then Qgb s (Q06 s p0)
 else if Q08 s (Q06 s p0)=120 then
  (if 49≤(Q08 s (Q06 s p0+1)).toNat∧(Q08 s (Q06 s p0+1)).toNat≤48+most then .ok (.var ((Q08 s (Q06 s p0+1)).toNat-49),Q06 s p0+2) else .error (Q06 s p0+1))
 else if Q08 s (Q06 s p0)=40∧opens=true then
  match sub (Q06 s p0+1) with
  | .error e=>.error e
  | .ok (x,q)=>if Q08 s (Q06 s q)=41 then .ok (x,Q06 s q+1) else .error (Q06 s q)
 else .error (Q06 s p0)
def Q27 (sub:Nat→PR Ex) (opens:Bool) (s:List UInt8) (most:Nat) (p:Nat):PR Ex:=
 match Q4y sub opens s most p with
 | .error e=>.error e
 | .ok (b,q)=>if Q08 s (Q06 s q)=94 then
    (if 48≤(Q08 s (Q06 s (Q06 s q+1))).toNat∧(Q08 s (Q06 s (Q06 s q+1))).toNat≤56 then .ok (.pow b ((Q08 s (Q06 s (Q06 s q+1))).toNat-48),Q06 s (Q06 s q+1)+1) else .error (Q06 s (Q06 s q+1)))
   else .ok (b,Q06 s q)
def Q42 (sub:Nat→PR Ex) (opens:Bool) (s:List UInt8) (most:Nat):Nat→Nat→List Ex→PR Ex
 |0,p,_=>.error p
 |f+1,p,acc=>match Q27 sub opens s most p with
  | .error e=>.error e
  | .ok (x,q)=>if Q08 s (Q06 s q)=42 then Q42 sub opens s most f (Q06 s q+1) (acc++[x]) else .ok (.prod (acc++[x]),Q06 s q)
def Q8k (sub:Nat→PR Ex) (opens:Bool) (s:List UInt8) (most:Nat):Nat→Nat→Bool→List (Bool × Ex)→PR Ex
 |0,p,_,_=>.error p
 |f+1,p,below,acc=>match Q42 sub opens s most (s.length+1) p [] with
  | .error e=>.error e
  | .ok (x,q)=>if Q08 s (Q06 s q)=43 then Q8k sub opens s most f (Q06 s q+1) false (acc++[(below,x)])
    else if Q08 s (Q06 s q)=45 then Q8k sub opens s most f (Q06 s q+1) true (acc++[(below,x)])
    else .ok (.sum (acc++[(below,x)]),Q06 s q)
def Q5p (sub:Nat→PR Ex) (opens:Bool) (s:List UInt8) (most:Nat) (p:Nat):PR Ex:=
 if Q08 s (Q06 s p)=45 then Q8k sub opens s most (s.length+1) (Q06 s p+1) true [] else Q8k sub opens s most (s.length+1) (Q06 s p) false []
def Q64 (s:List UInt8) (most:Nat):Nat→Nat→PR Ex
 |0=>Q5p (fun q=>.error q) false s most
 |d+1=>Q5p (Q64 s most d) true s most
def Q4z (s:List UInt8) (p:Nat) (r:PR Ex):Prop:=
 match r with
 | .error e=>e≤s.length
 | .ok (_,q)=>p<q∧q≤s.length
theorem Qm7 {s:List UInt8} {p:Nat} (hp:p≤s.length):Q4z s p (Qgb s p):=by
 have h1:=Qqc hp
 have h2:=Q9r hp
 unfold Qgb
 split
 ·exact hp
 ·rename_i neg v e hf
  refine ⟨?_,h1.2⟩
  refine Nat.lt_of_not_le fun hle=>?_
  rw[show Q8j s p-p=0 by omega,List.take_zero,show form []=none by decide] at hf
  cases hf
theorem Qje {sub:Nat→PR Ex} {opens:Bool} {s:List UInt8} {most:Nat} (hs:opens=true→∀p,p≤s.length→Q4z s p (sub p)) {p:Nat} (hp:p≤s.length):Q4z s p (Q4y sub opens s most p):=by
 have h1:=Q2g hp
 have h2:=Q4p s p
 unfold Q4y
 split
 ·have:=Qm7 h1
  revert this
  unfold Q4z
  split
  ·exact id
  ·intro h;omega
 ·split
  ·rename_i h3
   have h4:=Q0i h3 (by decide)
   split
   ·rename_i h5
    have h6:Q06 s p+1<s.length:=Q4w (fun e=>by rw[e] at h5;exact absurd h5.1 (by decide))
    show p<Q06 s p+2∧_
    omega
   ·show Q06 s p+1≤s.length
    omega
  ·split
   ·rename_i h3
    have h4:=Q0i h3.1 (by decide)
    have h5:=hs h3.2 (Q06 s p+1) (by omega)
    revert h5
    cases sub (Q06 s p+1) with
    |error e=>exact id
    |ok r=>
     obtain ⟨x,q⟩:=r
     intro h5
     have h5':Q06 s p+1<q∧q≤s.length:=h5
     have h6:=Q2g h5'.2
     have h7:=Q4p s q
     simp only
     split
     ·rename_i h8
      have h9:=Q0i h8 (by decide)
      show p<Q06 s q+1∧_
      omega
     ·show Q06 s q≤s.length
      exact h6
   ·exact h1
theorem Q88 {sub:Nat→PR Ex} {opens:Bool} {s:List UInt8} {most:Nat} (hs:opens=true→∀p,p≤s.length→Q4z s p (sub p)) {p:Nat} (hp:p≤s.length):Q4z s p (Q27 sub opens s most p):=by
 have h5:=Qje (most:=most) hs hp
 unfold Q27
 revert h5
 cases Q4y sub opens s most p with
 |error e=>exact id
 |ok r=>
  obtain ⟨x,q⟩:=r
  intro h5
  have h5':p<q∧q≤s.length:=h5
  have h6:=Q2g h5'.2
  have h7:=Q4p s q
  simp only
  split
  ·rename_i h8
   have h9:=Q0i h8 (by decide)
   have h10:=Q2g (s:=s) (p:=Q06 s q+1) (by omega)
   have h11:=Q4p s (Q06 s q+1)
   split
   ·rename_i h12
    have h13:Q06 s (Q06 s q+1)<s.length:=Q4w (fun e=>by rw[e] at h12;exact absurd h12.1 (by decide))
    show p<Q06 s (Q06 s q+1)+1∧_
    omega
   ·exact h10
  ·show p<Q06 s q∧_
   omega
theorem Q7o {sub:Nat→PR Ex} {opens:Bool} {s:List UInt8} {most:Nat} (hs:opens=true→∀p,p≤s.length→Q4z s p (sub p)):∀(f:Nat) {p:Nat} (acc:List Ex),p≤s.length→Q4z s p (Q42 sub opens s most f p acc)
 |0,p,acc,hp=>hp
 |f+1,p,acc,hp=>by
  have h5:=Q88 (most:=most) hs hp
  unfold Q42
  revert h5
  cases Q27 sub opens s most p with
  |error e=>exact id
  |ok r=>
   obtain ⟨x,q⟩:=r
   intro h5
   have h5':p<q∧q≤s.length:=h5
   have h6:=Q2g h5'.2
   have h7:=Q4p s q
   simp only
   split
   ·rename_i h8
    have h9:=Q0i h8 (by decide)
    have:=Q7o (most:=most) hs f (p:=Q06 s q+1) (acc++[x]) (by omega)
    revert this
    unfold Q4z
    split
    ·exact id
    ·intro h;omega
   ·show p<Q06 s q∧_
    omega
theorem Q71 {sub:Nat→PR Ex} {opens:Bool} {s:List UInt8} {most:Nat} (hs:opens=true→∀p,p≤s.length→Q4z s p (sub p)):∀(f:Nat) {p:Nat} (below:Bool) (acc:List (Bool × Ex)),p≤s.length→Q4z s p (Q8k sub opens s most f p below acc)
 |0,p,below,acc,hp=>hp
 |f+1,p,below,acc,hp=>by
  have h5:=Q7o (most:=most) hs (s.length+1) [] hp
  unfold Q8k
  revert h5
  cases Q42 sub opens s most (s.length+1) p [] with
  |error e=>exact id
  |ok r=>
   obtain ⟨x,q⟩:=r
   intro h5
   have h5':p<q∧q≤s.length:=h5
   have h6:=Q2g h5'.2
   have h7:=Q4p s q
   simp only
   split
   ·rename_i h8
    have h9:=Q0i h8 (by decide)
    have:=Q71 (most:=most) hs f (p:=Q06 s q+1) false (acc++[(below,x)]) (by omega)
    revert this
    unfold Q4z
    split
    ·exact id
    ·intro h;omega
   ·split
    ·rename_i h8
     have h9:=Q0i h8 (by decide)
     have:=Q71 (most:=most) hs f (p:=Q06 s q+1) true (acc++[(below,x)]) (by omega)
     revert this
     unfold Q4z
     split
     ·exact id
     ·intro h;omega
    ·show p<Q06 s q∧_
     omega
theorem Q9s {sub:Nat→PR Ex} {opens:Bool} {s:List UInt8} {most:Nat} (hs:opens=true→∀p,p≤s.length→Q4z s p (sub p)) {p:Nat} (hp:p≤s.length):Q4z s p (Q5p sub opens s most p):=by
 have h6:=Q2g hp
 have h7:=Q4p s p
 unfold Q5p
 split
 ·rename_i h8
  have h9:=Q0i h8 (by decide)
  have:=Q71 (most:=most) hs (s.length+1) (p:=Q06 s p+1) true [] (by omega)
  revert this
  unfold Q4z
  split
  ·exact id
  ·intro h;omega
 ·have:=Q71 (most:=most) hs (s.length+1) (p:=Q06 s p) false [] h6
  revert this
  unfold Q4z
  split
  ·exact id
  ·intro h;omega
theorem Q7p (s:List UInt8) (most:Nat):∀(d p:Nat),p≤s.length→Q4z s p (Q64 s most d p)
 |0,p,hp=>Q9s (fun h=>by cases h) hp
 |d+1,p,hp=>Q9s (fun _ p hp=>Q7p s most d p hp) hp
def Q1u (s:List UInt8):List UInt8→Nat→Except Nat Nat
 |[],p=>.ok p
 |c::r,p=>if Q08 s p=c then Q1u s r (p+1) else .error p
def Q3d (i:Nat):List UInt8:=120::(dec (i+1)++[39,32,61,32])
def Qc9 (s:List UInt8) (most i p:Nat):PR Ex:=
 match Q1u s (Q3d i) p with
 | .error e=>.error e
 | .ok p1=>match Q64 s most 16 p1 with
   | .error e=>.error e
   | .ok (x,q)=>if Q08 s (Q06 s q)=10 then .ok (x,Q06 s q+1) else .error (Q06 s q)
def Q3q (s:List UInt8) (most:Nat):Nat→Nat→List (Nat × Ex)→Except Nat (List (Nat × Ex))
 |0,p,_=>.error p
 |f+1,p,acc=>match Qc9 s most acc.length p with
  | .error e=>.error e
  | .ok (x,q)=>if q<s.length then Q3q s most f q (acc++[(p,x)]) else .ok (acc++[(p,x)])
def Q2b (n:Nat):List (Nat × Ex)→List (List Q0d)→Except (Nat × Int) (List (List Q0d))
 |[],acc=>.ok acc
 |(p,x)::r,acc=>match Q1r n x with
  | .error e=>.error (p,e)
  | .ok P=>Q2b n r (acc++[P])
def Q4e (s:List UInt8):Except (Nat × Int) (List (List Q0d)):=
 match Q3q s (min (s.count 10) 4) 4 0 [] with
 | .error p=>.error (p,5)
 | .ok l=>Q2b l.length l []
end Go.Proofs.YtdilmfakkppgpaaGreatDoor
