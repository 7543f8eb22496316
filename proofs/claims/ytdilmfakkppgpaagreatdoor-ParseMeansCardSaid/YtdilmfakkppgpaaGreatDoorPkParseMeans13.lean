/- Part 13 of the proof of LawParseMeans: PolyA. Condition: as each theorem says; none at the end. -/
import Derived.Test.YtdilmfakkppgpaaGreatDoorPkParseMeans12
set_option maxRecDepth 100000
set_option maxHeartbeats 16000000
namespace Go.Proofs.YtdilmfakkppgpaaGreatDoor
open Go.RowKit WordsM
theorem Qk9 {E F:List Int} {i:Nat} {x y:Int} (hx:E[i]?=some x) (hy:F[i]?=some y):Q2v (E.drop i) (F.drop i)=if x<y then -1 else if y<x then 1 else Q2v (E.drop (i+1)) (F.drop (i+1)):=by
 rw[Q6i E i x hx,Q6i F i y hy]
 rfl
theorem Qb5 (a:Option Addr) (n c:Nat) (E:List Int) (b:Option Addr) (m d:Nat) (F:List Int) (w:World) (h1:Q0k w a n c E) (h2:Q0k w b m d F):
 Calls Tryz.prog 142 #[.slice a n c,.slice b m d] w fun r w'=>r=.returned (.int .i64 (Q2v E F))/\w'=w:=by
 have hl1:=h1.len
 have hl2:=h2.len
 subst hl1
 subst hl2
 have hc1:=Nat.le_trans h1.cap h1.most
 have hc2:=Nat.le_trans h2.cap h2.most
 have hcm:=fun x y W=>Tryz.Qxc x y W
 have HC:=Xh5 h1.rd h2.rd h1.rng.1 h2.rng.1 hcm
 clear h1 h2 hcm
 obtain ⟨V,hV⟩:∃V,Q2v E F=V:=⟨_,rfl⟩
 rw[hV]
 have HV:=Lib.hid hV
 clear hV
 go_enter Tryz.func142,Tryz.ntmps142
 go_wp2_with fail
 go_loopw [11] (fun iv wr=>∃i:Nat,iv=.int .i64 (i:Int)/\i<=E.length/\i<=F.length/\Q2v (E.drop i) (F.drop i)=V/\w=wr) (fun iv _=>E.length-(intOf iv).toNat)
 case atStart=>exact ⟨0,rfl,Nat.zero_le _,Nat.zero_le _,HV.out,rfl⟩
 case round=>
  obtain ⟨i,rfl,hi,hi2,hcmp,rfl⟩:=hrel
  by_cases hlt:i<E.length
  ·have hlt':(i:Int)<(E.length:Int):=by omega
   obtain ⟨x,hx⟩:∃x,E[i]?=some x:=⟨_,List.getElem?_eq_getElem hlt⟩
   obtain ⟨ba,oa,hae,hba,hcx⟩:=(Xo0 HC).at_ hx
   subst hae
   by_cases hlt2:i<F.length
   ·have hlt2':¬(F.length:Int)<=(i:Int):=by omega
    obtain ⟨y,hy⟩:∃y,F[i]?=some y:=⟨_,List.getElem?_eq_getElem hlt2⟩
    obtain ⟨bb,ob,hbe,hbb,hcy⟩:=(Xo1 HC).at_ hy
    subst hbe
    have hcd:=Qk9 hx hy
    rw[hcmp] at hcd
    have hxr:=(Xo2 HC) x (List.mem_of_getElem? hx)
    have hyr:=(Xo3 HC) y (List.mem_of_getElem? hy)
    obtain ⟨v,hv⟩:∃v,Lib.compareInt x y=v:=⟨_,rfl⟩
    have hcc:=(Xe4 HC) x y w
    rw[hv] at hcc
    have hvv:v=if x<y then -1 else if y<x then 1 else 0:=by rw[<-hv];rfl
    have HH:=Xh3 hcc hvv hcd
    clear hcc hvv hcd hv hx hy hcmp
    by_cases hv0:v=0
    ·subst hv0
     have hxy:¬x<y/\¬y<x:=by
      have h3:=(Xo1 HH)
      constructor
      ·intro h;rw[if_pos h] at h3;omega
      ·intro h;rw[if_neg (by omega),if_pos h] at h3;omega
     have HX:=Lib.hid hxy
     clear hxy
     go_wp2_with (refine (Xo0 HH).mono ?_;rintro r w1 ⟨rfl,rfl⟩)
     refine ⟨⟨i+1,by simp,by omega,by omega,?_,trivial⟩,by simp only[intOf];omega⟩
     have h4:=(Xe2 HH)
     rw[if_neg (Int.not_lt.2 (Xo0 HX)),if_neg (Int.not_lt.2 (Xe1 HX))] at h4
     exact h4.symm
    ·have hvb:(v==0)=false:=by rw[beq_eq_false_iff_ne];exact hv0
     have hVv:V=v:=by
      have h3:=(Xo1 HH)
      have h4:=(Xe2 HH)
      by_cases q1:x<y
      ·rw[if_pos q1] at h3 h4;omega
      ·rw[if_neg q1] at h3 h4
       by_cases q2:y<x
       ·rw[if_pos q2] at h3 h4;omega
       ·rw[if_neg q2] at h3;exact absurd h3 hv0
     have HVV:=Lib.hid hVv
     clear hVv
     go_wp2_with (refine (Xo0 HH).mono ?_;rintro r w1 ⟨rfl,rfl⟩)
     go_ret
     exact ⟨by rw[HVV.out];rfl,rfl⟩
   ·have hlt2':(F.length:Int)<=(i:Int):=by omega
    have hV1:V=1:=by
     rw[<-hcmp,Q6i E i x hx,List.drop_of_length_le (l:=F) (show F.length<=i by omega)];rfl
    subst hV1
    clear hcmp hx
    go_wp2_with fail
    go_ret
    exact ⟨rfl,rfl⟩
  ·obtain rfl:i=E.length:=by omega
   have hlt':¬((E.length:Int)<(E.length:Int)):=by omega
   rw[List.drop_of_length_le (Nat.le_refl _)] at hcmp
   by_cases hlt2:E.length<F.length
   ·have hlt2':(E.length:Int)<(F.length:Int):=by omega
    obtain ⟨y,hy⟩:∃y,F[E.length]?=some y:=⟨_,List.getElem?_eq_getElem hlt2⟩
    have hV1:V= -1:=by rw[<-hcmp,Q6i F _ y hy];rfl
    subst hV1
    clear hcmp hy
    go_wp2_with fail
    go_ret
    exact ⟨rfl,rfl⟩
   ·have hlt2':¬(E.length:Int)<(F.length:Int):=by omega
    have hV1:V=0:=by rw[<-hcmp,List.drop_of_length_le (by omega)];rfl
    subst hV1
    clear hcmp
    go_wp2_with fail
    go_ret
    exact ⟨rfl,rfl⟩
theorem Qp6 (u0 u1 u2:Value) (a:Option Addr) (n c:Nat) (E:List Int) (v0 v1 v2:Value) (b:Option Addr) (m d:Nat) (F:List Int) (w:World) (h1:Q0k w a n c E) (h2:Q0k w b m d F):
 Calls Tryz.prog 88 #[.agg #[u0,u1,u2,.slice a n c],.agg #[v0,v1,v2,.slice b m d]] w fun r w'=>r=.returned (.int .i64 (Q2v F E))/\Below w.heap.size w w':=by
 have hb1:Below w.heap.size w (w.alloc (.cells #[u0,u1,u2,.slice a n c] 44)):=(Below.refl _ _).alloc (Nat.le_refl _) _
 have hs1:(w.alloc (.cells #[u0,u1,u2,.slice a n c] 44)).heap.size=w.heap.size+1:=World.size_alloc _ _
 have hb2:Below (w.alloc (.cells #[u0,u1,u2,.slice a n c] 44)).heap.size (w.alloc (.cells #[u0,u1,u2,.slice a n c] 44)) ((w.alloc (.cells #[u0,u1,u2,.slice a n c] 44)).alloc (.cells #[v0,v1,v2,.slice b m d] 44)):=(Below.refl _ _).alloc (Nat.le_refl _) _
 have hX:=(Q2s.new w u0 u1 u2 (.slice a n c) 44).step hb2 (Q0f _ _)
 have hY:=Q2s.new (w.alloc (.cells #[u0,u1,u2,.slice a n c] 44)) v0 v1 v2 (.slice b m d) 44
 rw[hs1] at hY
 have hB:=Below.next0 hb1 hb2
 generalize hW:(w.alloc (.cells #[u0,u1,u2,.slice a n c] 44)).alloc (.cells #[v0,v1,v2,.slice b m d] 44)=W at hX hY hB
 have hx3:=hX.c3
 have hy3:=hY.c3
 have hcm:=Qb5 b m d F a n c E W (h2.step hB) (h1.step hB)
 have HC:=Xh2 hcm hB
 clear hb1 hs1 hb2 hX hY hB hcm h1 h2
 go_enter Tryz.func88,Tryz.ntmps88
 go_wp2_with (refine (Xo0 HC).mono ?_;rintro r w1 ⟨rfl,rfl⟩)
 go_ret
 exact ⟨rfl,(Xe1 HC)⟩
end Go.Proofs.YtdilmfakkppgpaaGreatDoor
