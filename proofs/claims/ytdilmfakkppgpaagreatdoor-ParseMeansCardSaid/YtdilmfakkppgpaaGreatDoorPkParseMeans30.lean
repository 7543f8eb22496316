/- Part 30 of the proof of LawParseMeans: RefVal2, Ref10A, FlatT, RefT0, GathA. Condition: as each theorem says; none at the end. -/
import Derived.Test.YtdilmfakkppgpaaGreatDoorPkParseMeans29
set_option maxRecDepth 100000
set_option maxHeartbeats 16000000
namespace Go.Proofs.YtdilmfakkppgpaaGreatDoor
open Go.RowKit WordsM
theorem Qqi (n:Bool) (v:Nat) (e:Int):dy (sgn (!n) v) e= -dy (sgn n v) e:=by rw[Qex,Qol]
def Qnl (n:Bool) (v:Nat):Int:=if v=0 then 0 else if n=true then -1 else 1
theorem Qbs {n:Bool} {v:Nat} {e:Int} (hc:Q37 n v e):Qnl n v=0↔dy (sgn n v) e=0:=by
 unfold Qnl
 by_cases h:v=0
 ·rw[if_pos h];exact ⟨fun _=>Q95 n e h,fun _=>rfl⟩
 ·rw[if_neg h]
  have h1:dy (sgn n v) e≠0:=Qok (Q3t (hc.2 h))
  constructor
  ·intro h2;split at h2 <;> cases h2
  ·intro h2;exact absurd h2 h1
theorem Qe6 (nx:Bool) (ax:Option Addr) (lx cx:Nat) (ex:Int) (vx:Nat) (w:World) (h1:Q0l w ax lx cx vx) (c1:Q37 nx vx ex):
 Calls Tryz.prog 62 #[.agg #[.bool nx,.slice ax lx cx,.int .i64 ex]] w (Qgm w (-(dy (sgn nx vx) ex))):=by
 have hQ:=fun W=>(Qqg w (.bool nx) (.slice ax lx cx) (.int .i64 ex) 56 56).step (W':=W)
 obtain ⟨W0,hW0⟩:∃W0,(w.alloc (.cells #[.bool nx,.slice ax lx cx,.int .i64 ex] 56)).alloc (.cells #[.bool false,.slice none 0 0,.int .i64 0] 56)=W0:=⟨_,rfl⟩
 rw[hW0] at hQ
 have HQ:=Lib.hid hQ
 have hx0:=fun h=>Q0l.none_of h1 h
 by_cases hvx:vx=0
 ·obtain rfl:=hx0 hvx
  have hD:dy (sgn nx vx) ex= -(dy (sgn nx vx) ex):=by rw[Q95 nx ex hvx];exact Dyadic.neg_zero.symm
  have HD:=Xh3 hD c1 h1
  clear hD h1 c1 hx0 hvx
  have xc0:=(HQ.out W0 (Below.refl _ _)).bx.c0
  have xc1:=(HQ.out W0 (Below.refl _ _)).bx.c1
  have xc2:=(HQ.out W0 (Below.refl _ _)).bx.c2
  have rc0:=(HQ.out W0 (Below.refl _ _)).br.c0
  have rc1:=(HQ.out W0 (Below.refl _ _)).br.c1
  have rc2:=(HQ.out W0 (Below.refl _ _)).br.c2
  have rf0:=(HQ.out W0 (Below.refl _ _)).br.f0
  have rf1:=(HQ.out W0 (Below.refl _ _)).br.f1
  have rf2:=(HQ.out W0 (Below.refl _ _)).br.f2
  have rd1:=(HQ.out W0 (Below.refl _ _)).br.d1 (.bool nx)
  have rd2:=(HQ.out W0 (Below.refl _ _)).br.d2 (.bool nx) (.slice ax 0 cx)
  go_enter Tryz.func62,Tryz.ntmps62
  go_wp2_with fail
  have hS:=(HQ.out W0 (Below.refl _ _)).br.store (.bool nx) (.slice ax 0 cx) (.int .i64 ex)
  have k0:=hS.c0
  have k1:=hS.c1
  have k2:=hS.c2
  have hbz:=Q04.below (HQ.out W0 (Below.refl _ _)).bel (show w.heap.size<=w.heap.size+1 by omega) (.bool nx) (.slice ax 0 cx) (.int .i64 ex)
  exact ⟨rfl,.agg #[.bool nx,.slice ax 0 cx,.int .i64 ex],by simp[results,go_sem,k0,k1,k2],_,rfl,⟨_,_,_,_,_,_,rfl,((Xe2 HD).step (HQ.out W0 (Below.refl _ _)).bel).box (HQ.out W0 (Below.refl _ _)).br _ _ _,(Xo1 HD),(Xo0 HD)⟩,hbz⟩
 have hlx:(0:Int)<(lx:Int):=by
  have:lx≠0:=fun e=>hvx (h1.zero_of e)
  omega
 have hD:dy (sgn (!nx) vx) ex= -(dy (sgn nx vx) ex):=Qqi nx vx ex
 have hcn:Q37 (!nx) vx ex:=⟨fun h=>absurd h hvx,fun h=>c1.2 h⟩
 have HD:=Xh3 hD hcn h1
 have xb:=(HQ.out W0 (Below.refl _ _)).bx
 have xc0:=xb.c0
 have xc1:=xb.c1
 have xf0:=xb.f0
 have HB:=Lib.hid xb
 clear hD h1 c1 hx0 hvx hcn xb
 go_enter Tryz.func62,Tryz.ntmps62
 go_upto_region 3 with fail
 have hb1:=HB.out.set0 (.bool (!nx))
 have hb2:=(HQ.out W0 (Below.refl _ _)).br.far (p:=⟨w.heap.size,0,none⟩) (by show w.heap.size≠w.heap.size+1;omega) (.bool (!nx))
 have hbw:Below w.heap.size w (W0.setCell ⟨w.heap.size,0,none⟩ (.bool (!nx))):=(HQ.out W0 (Below.refl _ _)).bel.setCell (p:=⟨w.heap.size,0,none⟩) (Nat.le_refl _) _
 have hdg:=(Xe2 HD).step hbw
 generalize W0.setCell ⟨w.heap.size,0,none⟩ (.bool (!nx))=W5 at hb1 hb2 hbw hdg⊢
 have HE:=Xh3 hb2 hbw hdg
 have c0:=hb1.c0
 have c1:=hb1.c1
 have c2:=hb1.c2
 have f0:=hb2.f0
 have f1:=hb2.f1
 have f2:=hb2.f2
 have k0:=hb2.c0
 have d1:=hb2.d1 (.bool (!nx))
 have d2:=hb2.d2 (.bool (!nx)) (.slice ax lx cx)
 clear hb1 hb2 hbw hdg xc0 xc1 xf0 hW0 hQ
 go_wp2_with fail
 have hS:=(Xo0 HE).store (.bool (!nx)) (.slice ax lx cx) (.int .i64 ex)
 have s0:=hS.c0
 have s1:=hS.c1
 have s2:=hS.c2
 have hbz:=Q04.below (Xo1 HE) (show w.heap.size<=w.heap.size+1 by omega) (.bool (!nx)) (.slice ax lx cx) (.int .i64 ex)
 exact ⟨rfl,.agg #[.bool (!nx),.slice ax lx cx,.int .i64 ex],by simp[results,go_sem,s0,s1,s2],_,rfl,⟨_,_,_,_,_,_,rfl,(Xe2 HE).box (Xo0 HE) _ _ _,(Xo1 HD),(Xo0 HD)⟩,hbz⟩
theorem Qbt (nx:Bool) (ax:Option Addr) (lx cx:Nat) (ex:Int) (vx:Nat) (w:World) (h1:Q0l w ax lx cx vx) (c1:Q37 nx vx ex):
 Calls Tryz.prog 64 #[.agg #[.bool nx,.slice ax lx cx,.int .i64 ex]] w fun e w'=>e=.returned (.int .i64 (Qnl nx vx))/\Below w.heap.size w w':=by
 have hb:=Q04.new w (.bool nx) (.slice ax lx cx) (.int .i64 ex) 56
 have hbw:Below w.heap.size w (w.alloc (.cells #[.bool nx,.slice ax lx cx,.int .i64 ex] 56)):=(Below.refl _ _).alloc (Nat.le_refl _) _
 obtain ⟨W0,hW0⟩:∃W0,w.alloc (.cells #[.bool nx,.slice ax lx cx,.int .i64 ex] 56)=W0:=⟨_,rfl⟩
 rw[hW0] at hb hbw
 have c0:=hb.c0
 have c1':=hb.c1
 have hx0:=fun h=>Q0l.none_of h1 h
 obtain ⟨r,hr⟩:∃r,Qnl nx vx=r:=⟨_,rfl⟩
 rw[hr]
 have HB:=Lib.hid hbw
 by_cases hvx:vx=0
 ·obtain rfl:=hx0 hvx
  obtain rfl:0=r:=by rw[<-hr,Qnl,if_pos hvx]
  clear h1 c1 hb hbw hx0 hvx hr
  go_enter Tryz.func64,Tryz.ntmps64
  go_wp2_with fail
  go_ret
  exact ⟨rfl,HB.out⟩
 ·have hlx:((lx:Int)==0)=false:=by
   rw[beq_eq_false_iff_ne]
   intro e
   exact hvx (h1.zero_of (by omega))
  cases nx with
  |true=>
   obtain rfl: -1=r:=by rw[<-hr,Qnl,if_neg hvx,if_pos rfl]
   clear h1 c1 hb hbw hx0 hvx hr
   go_enter Tryz.func64,Tryz.ntmps64
   go_wp2_with fail
   go_ret
   exact ⟨rfl,HB.out⟩
  |false=>
   obtain rfl:1=r:=by rw[<-hr,Qnl,if_neg hvx,if_neg (by decide)]
   clear h1 c1 hb hbw hx0 hvx hr
   go_enter Tryz.func64,Tryz.ntmps64
   go_wp2_with fail
   go_ret
   exact ⟨rfl,HB.out⟩
theorem Qbu (nx:Bool) (ax:Option Addr) (lx cx:Nat) (ex:Int) (vx:Nat) (ny:Bool) (ay:Option Addr) (ly cy:Nat) (ey:Int) (vy:Nat) (w:World) (h1:Q0l w ax lx cx vx) (h2:Q0l w ay ly cy vy) (c1:Q37 nx vx ex) (c2:Q37 ny vy ey) (T:Nat) (b1:bnd T (dy (sgn nx vx) ex)) (b2:bnd T (dy (sgn ny vy) ey)) (hT:T<=500000):
 Calls Tryz.prog 26 #[.agg #[.bool nx,.slice ax lx cx,.int .i64 ex],.agg #[.bool ny,.slice ay ly cy,.int .i64 ey]] w (Qgm w (dy (sgn nx vx) ex+ -(dy (sgn ny vy) ey))):=by
 have hQ:=fun W=>(Qbr w (.bool nx) (.slice ax lx cx) (.int .i64 ex) (.bool ny) (.slice ay ly cy) (.int .i64 ey) 56 56 56).step (W':=W)
 obtain ⟨W0,hW0⟩:∃W0,((w.alloc (.cells #[.bool nx,.slice ax lx cx,.int .i64 ex] 56)).alloc (.cells #[.bool ny,.slice ay ly cy,.int .i64 ey] 56)).alloc (.cells #[.bool false,.slice none 0 0,.int .i64 0] 56)=W0:=⟨_,rfl⟩
 rw[hW0] at hQ
 have HQ:=Lib.hid hQ
 have HW:=Xh6 h1 h2 c1 c2 b1 b2
 clear h1 h2 c1 c2 b1 b2 hQ
 go_enter Tryz.func26,Tryz.ntmps26
 go_upto_region 1 with fail
 refine Q1o (by kernel_rfl) 4 rfl (fun W=>Below W0.heap.size W0 W) (fun _ _ h h'=>Below.next0 h h') (Q6k [.agg #[.bool nx,.slice ax lx cx,.int .i64 ex],.agg #[.bool ny,.slice ay ly cy,.int .i64 ey],undef,undef] (Q5o [(2,fun u w=>Q4h w u (-(dy (sgn ny vy) ey))),(3,fun u w=>Q4h w u (dy (sgn nx vx) ex+ -(dy (sgn ny vy) ey)))])) (Q0q (Q1c (Qj3 (Q1d _) (Q1d _)))) (Quu w (w.heap.size+2) (dy (sgn nx vx) ex+ -(dy (sgn ny vy) ey))) (by kernel_rfl) (by kernel_rfl) (by kernel_rfl) (by kernel_rfl) (Q08 W0) ?_ ?_ ?_
 ·skip
  refine ⟨fun A W hW hag hdep=>?_,?_⟩
  ·have e2:A.tmps[2]?.getD undef=.pointer (some ⟨w.heap.size,0,none⟩):=Q03 (hag.keep (t:=2) (by kernel_rfl) rfl)
   refine Q01 rfl ?_
   obtain ⟨k0,k1,k2,_,_,_⟩:=(HQ.out W hW).bx
   refine Q02 (u:=.agg #[.bool nx,.slice ax lx cx,.int .i64 ex]) ?_ ((Q00 rfl).2 rfl)
   simp[go_sem,e2,k0,k1,k2]
  refine ⟨fun A W hW hag hdep=>?_,?_⟩
  ·have e3:A.tmps[3]?.getD undef=.pointer (some ⟨(w.heap.size+1),0,none⟩):=Q03 (hag.keep (t:=3) (by kernel_rfl) rfl)
   refine Q01 rfl ?_
   obtain ⟨k0,k1,k2,_,_,_⟩:=(HQ.out W hW).by_
   refine Q02 (u:=.agg #[.bool ny,.slice ay ly cy,.int .i64 ey]) ?_ ((Q00 rfl).2 rfl)
   simp[go_sem,e3,k0,k1,k2]
  refine ⟨fun A W hW hag hdep=>?_,?_⟩
  ·have e6:A.tmps[6]?.getD undef=.agg #[.bool ny,.slice ay ly cy,.int .i64 ey]:=Q03 ((Q00 rfl).1 (hdep 1 (by decide)))
   refine Q01 rfl ?_
   refine Q0j (f:=62) (args:= #[.agg #[.bool ny,.slice ay ly cy,.int .i64 ey]]) (by simp[go_sem,e6]) ((Qe6 ny ay ly cy ey vy W ((Xo1 HW).step (HQ.out W hW).bel) (Xo3 HW)).mono ?_)
   rintro e w2' ⟨u',rfl,hv',hb'⟩
   exact ⟨_,rfl,hb',(Q06 rfl).2 hv'⟩
  refine ⟨fun A W hW hag hdep=>?_,?_⟩
  ·have e5:A.tmps[5]?.getD undef=.agg #[.bool nx,.slice ax lx cx,.int .i64 ex]:=Q03 ((Q00 rfl).1 (hdep 0 (by decide)))
   obtain ⟨n7,a7,l7,c7,e7,v7,hv7,hd7,hc7,hD7⟩:=(Q06 rfl).1 (hdep 2 (by decide))
   have e7':=Q03 hv7
   refine Q01 rfl ?_
   refine Q0j (f:=25) (args:= #[.agg #[.bool nx,.slice ax lx cx,.int .i64 ex],.agg #[.bool n7,.slice a7 l7 c7,.int .i64 e7]]) (by simp[go_sem,e5,e7']) ((Q7e nx ax lx cx ex vx n7 a7 l7 c7 e7 v7 W ((Xo0 HW).step (HQ.out W hW).bel) hd7 (Xo2 HW) hc7 T (Xo4 HW) (by rw[hD7];exact (Xe5 HW).neg) hT).mono ?_)
   rintro e w2' ⟨u',rfl,hv',hb'⟩
   rw[hD7] at hv'
   exact ⟨_,rfl,hb',(Q06 rfl).2 hv'⟩
  exact trivial
 ·intro A W hW hag hdep
  obtain ⟨n8,a8,l8,c8,q8,v8,hv8,hd8,hcn8,hD8⟩:=(Q06 rfl).1 (hdep 3 (by decide))
  have e8:=Q03 hv8
  have e4:A.tmps[4]?.getD undef=.pointer (some ⟨(w.heap.size+2),0,none⟩):=Q03 (hag.keep (t:=4) (by kernel_rfl) rfl)
  have hN8:=(HQ.out W hW).br
  have k0:=hN8.c0
  have f0:=hN8.f0
  have f1:=hN8.f1
  have f2:=hN8.f2
  have d1:=hN8.d1 (.bool n8)
  have d2:=hN8.d2 (.bool n8) (.slice a8 l8 c8)
  refine Q2f (w':=(((W.setCell ⟨(w.heap.size+2),0,none⟩ (.bool n8)).setCell ⟨(w.heap.size+2),1,none⟩ (.slice a8 l8 c8)).setCell ⟨(w.heap.size+2),2,none⟩ (.int .i64 q8))) (by simp[go_sem,e4,e8,k0,f0,f1,f2,d1,d2]) ?_
  exact Q4l (by omega) (HQ.out W hW).bel hN8 hd8 hcn8 hD8
 intro vs W1 hfin
 simp only[Q10,Act.put,List.setIfInBounds_toArray,List.set_cons_zero,List.set_cons_succ]
 obtain ⟨n9,a9,l9,c9,e9,v9,hN9,hd9,hcn9,hD9,hb9⟩:=hfin
 have k0:=hN9.c0
 have k1:=hN9.c1
 have k2:=hN9.c2
 have HE:=Xh4 hd9 hcn9 hD9 hb9
 clear hN9 hd9 hcn9 hD9 hb9
 go_wp2_with fail
 exact ⟨rfl,.agg #[.bool n9,.slice a9 l9 c9,.int .i64 e9],by simp[results,go_sem,k0,k1,k2],_,rfl,⟨n9,a9,l9,c9,e9,v9,rfl,(Xo0 HE),(Xo1 HE),(Xo2 HE)⟩,(Xe3 HE)⟩
theorem Qgo (nx:Bool) (ax:Option Addr) (lx cx:Nat) (ex:Int) (vx:Nat) (ny:Bool) (ay:Option Addr) (ly cy:Nat) (ey:Int) (vy:Nat) (w:World) (h1:Q0l w ax lx cx vx) (h2:Q0l w ay ly cy vy) (c1:Q37 nx vx ex) (c2:Q37 ny vy ey) (T:Nat) (b1:bnd T (dy (sgn nx vx) ex)) (b2:bnd T (dy (sgn ny vy) ey)) (hT:T<=500000):
 Calls Tryz.prog 28 #[.agg #[.bool nx,.slice ax lx cx,.int .i64 ex],.agg #[.bool ny,.slice ay ly cy,.int .i64 ey]] w fun e w'=>(∃n v f,e=.returned (.int .i64 (Qnl n v))/\Q37 n v f/\dy (sgn n v) f=dy (sgn nx vx) ex+ -(dy (sgn ny vy) ey))/\Below w.heap.size w w':=by
 have hs1:(w.alloc (.cells #[.bool nx,.slice ax lx cx,.int .i64 ex] 56)).heap.size=w.heap.size+1:=World.size_alloc _ _
 have hb1:Below w.heap.size w (w.alloc (.cells #[.bool nx,.slice ax lx cx,.int .i64 ex] 56)):=(Below.refl _ _).alloc (Nat.le_refl _) _
 have hb2:Below (w.alloc (.cells #[.bool nx,.slice ax lx cx,.int .i64 ex] 56)).heap.size (w.alloc (.cells #[.bool nx,.slice ax lx cx,.int .i64 ex] 56)) ((w.alloc (.cells #[.bool nx,.slice ax lx cx,.int .i64 ex] 56)).alloc (.cells #[.bool ny,.slice ay ly cy,.int .i64 ey] 56)):=(Below.refl _ _).alloc (Nat.le_refl _) _
 have hX:=(Q04.new w (.bool nx) (.slice ax lx cx) (.int .i64 ex) 56).step hb2 (Q0f _ _)
 have hY:=Q04.new (w.alloc (.cells #[.bool nx,.slice ax lx cx,.int .i64 ex] 56)) (.bool ny) (.slice ay ly cy) (.int .i64 ey) 56
 rw[hs1] at hY
 have hb:=Below.next0 hb1 hb2
 obtain ⟨W0,hW0⟩:∃W0,(w.alloc (.cells #[.bool nx,.slice ax lx cx,.int .i64 ex] 56)).alloc (.cells #[.bool ny,.slice ay ly cy,.int .i64 ey] 56)=W0:=⟨_,rfl⟩
 rw[hW0] at hX hY hb
 have x0:=hX.c0
 have x1:=hX.c1
 have x2:=hX.c2
 have y0:=hY.c0
 have y1:=hY.c1
 have y2:=hY.c2
 have hls:=Qbu nx ax lx cx ex vx ny ay ly cy ey vy W0 (h1.step hb) (h2.step hb) c1 c2 T b1 b2 hT
 have H:=Xh2 hls hb
 clear h1 h2 c1 c2 b1 b2 hls hb hX hY hs1 hb1 hb2
 go_enter Tryz.func28,Tryz.ntmps28
 go_wp2_with (first
  |(go_at_call 64;refine (Qbt n9 a9 l9 c9 e9 v9 w1 (Xo0 H1) (Xo1 H1)).mono ?_;rintro r w2 ⟨rfl,hb2⟩;have H2:=Lib.hid hb2;clear hb2)
  |(go_at_call 26;refine (Xo0 H).mono ?_;rintro r w1 ⟨u,rfl,⟨n9,a9,l9,c9,e9,v9,rfl,hd9,hc9,hD9⟩,hb1⟩;have H1:=Xh4 hd9 hc9 hD9 hb1;clear hd9 hc9 hD9 hb1))
 go_ret
 exact ⟨⟨n9,v9,e9,rfl,(Xo1 H1),(Xo2 H1)⟩,Below.next0 (Below.next0 (Xe1 H) (Xe3 H1)) H2.out⟩
theorem Qqj {w wr:World} (h:∀j,∃kk,wr.drewN j=w.drewN kk) (i j:Nat):∃kk,(wr.drewN i).drewN j=w.drewN kk:=by
 obtain ⟨kk,h1⟩:=h i
 exact ⟨kk+j,by rw[h1,World.drewN_drewN]⟩
theorem Qc8 (a:Option Addr) (n c:Nat) (E:List Int) (b:Option Addr) (d:Nat) (F:List Int) (w:World) (h1:Q0k w a n c E) (h2:Q0k w b n d F):
 Calls Tryz.prog 117 #[.slice a n c,.slice b n d] w fun r w'=>r=.returned (.int .i64 (Q2v E F))/\∃k,w'=w.drewN k:=by
 have hl1:=h1.len
 have hl2:=h2.len
 have hcm:=Nat.le_trans h1.cap h1.most
 have HC:=Xh2 h1.rd h2.rd
 clear h1 h2
 obtain ⟨V,hV⟩:∃V,Q2v E F=V:=⟨_,rfl⟩
 rw[hV]
 have HV:=Lib.hid hV
 clear hV
 go_enter Tryz.func117,Tryz.ntmps117
 go_wp2_with fail
 go_loopw [5] (fun iv wr=>∃i:Nat,iv=.int .i64 (i:Int)/\i<=n/\Q2v (E.drop i) (F.drop i)=V/\∃k,wr=w.drewN k) (fun iv _=>n-(intOf iv).toNat)
 case atStart=>exact ⟨0,rfl,Nat.zero_le _,HV.out,0,rfl⟩
 case round=>
  obtain ⟨i,rfl,hi,hcmp,hwr⟩:=hrel
  have hcell:∀p,wr.cell? p=w.cell? p:=fun p=>by obtain ⟨kk,rfl⟩:=hwr;rfl
  have hdr:∀j,∃kk,wr.drewN j=w.drewN kk:=fun j=>by obtain ⟨kk,rfl⟩:=hwr;exact ⟨_,World.drewN_drewN ..⟩
  have HW:=Xh2 hwr hdr
  clear hwr hdr
  by_cases hlt:i<n
  ·have hlt':(i:Int)<(n:Int):=by omega
   obtain ⟨x,hx⟩:∃x,E[i]?=some x:=⟨_,List.getElem?_eq_getElem (by omega)⟩
   obtain ⟨y,hy⟩:∃y,F[i]?=some y:=⟨_,List.getElem?_eq_getElem (by omega)⟩
   obtain ⟨ba,oa,rfl,hba,hcx0⟩:=(Xo0 HC).at_ hx
   obtain ⟨bb,ob,rfl,hbb,hcy0⟩:=(Xe1 HC).at_ hy
   have hcx:=(hcell ⟨ba,oa+i,none⟩).trans hcx0
   have hcy:=(hcell ⟨bb,ob+i,none⟩).trans hcy0
   have hcd:=Qk9 hx hy
   rw[hcmp] at hcd
   have HH:=Lib.hid hcd
   clear hcd hx hy hcmp hcx0 hcy0 hcell
   by_cases h1:y<x
   ·have hV1:V=1:=by rw[HH.out,if_neg (by omega),if_pos h1]
    subst hV1
    go_wp2_with fail
    go_quiet (fail)
    go_wp2_with fail
    go_ret
    exact ⟨rfl,(Xe1 HW) _⟩
   ·by_cases h2:x<y
    ·have hV1:V= -1:=by rw[HH.out,if_pos h2]
     subst hV1
     go_wp2_with fail
     go_quiet (fail)
     go_wp2_with fail
     go_quiet (fail)
     go_wp2_with fail
     go_ret
     exact ⟨rfl,Qqj (Xe1 HW) _ _⟩
    ·go_wp2_with fail
     go_quiet (fail)
     go_wp2_with fail
     go_quiet (fail)
     go_wp2_with fail
     refine ⟨⟨i+1,congrArg (Value.int .i64) (by omega),hlt,?_,(Xe1 HW) _⟩,by simp only[intOf];omega⟩
     rw[HH.out,if_neg (by omega),if_neg (by omega)]
  ·have hlt':¬(i:Int)<(n:Int):=by omega
   have hV1:V=0:=by rw[<-hcmp,List.drop_of_length_le (by omega),List.drop_of_length_le (by omega)];rfl
   subst hV1
   clear hcmp hcell
   go_wp2_with fail
   go_ret
   exact ⟨rfl,(Xo0 HW)⟩
theorem Qj7 (n:Bool) (e:Int) (a:Option Addr) (l c:Nat) (L:List Nat) (b:Option Addr) (m d:Nat) (E:List Int) (k:Nat) (w:World) (h:WordsIn w a l c L) (hE:Q0k w b m d E) (hk:k<=4) (he: -9223372036854775808<=e) (he2:e<=9223372036854775807):
 Calls Tryz.prog 92 #[.agg #[.bool n,.int .i64 e,.slice a l c,.slice b m d],.int .i64 (k:Int)] w fun r w'=>r=.returned (.bool (decide (Q0m k E/\Q0h n e L)))/\Below w.heap.size w w':=by
 obtain ⟨rs,hrs⟩:∃rs,decide (Q0m k E/\Q0h n e L)=rs:=⟨_,rfl⟩
 rw[hrs]
 have HRS:=Lib.hid hrs
 clear hrs
 have hb1:Below w.heap.size w (w.alloc (.cells #[.bool n,.int .i64 e,.slice a l c,.slice b m d] 44)):=(Below.refl _ _).alloc (Nat.le_refl _) _
 have hX:=Q2s.new w (.bool n) (.int .i64 e) (.slice a l c) (.slice b m d) 44
 have hlt:=Q0f w (.cells #[.bool n,.int .i64 e,.slice a l c,.slice b m d] 44)
 generalize hW:w.alloc (.cells #[.bool n,.int .i64 e,.slice a l c,.slice b m d] 44)=W at hb1 hX hlt
 have hx0:=hX.c0
 have hx1:=hX.c1
 have hx2:=hX.c2
 have hx3:=hX.c3
 have hln:=hE.len
 subst hln
 have hrt:=Qer n e a l c L W (h.step hb1) he he2 (by have:=h.cap;have:=h.most;omega)
 have hrd:=hE.rd.below hb1
 have hcm:=Nat.le_trans hE.cap hE.most
 have HC:=Xh4 hrt hrd hb1 hE.rng.1
 clear hb1 hX hlt hrt hrd h hE
 go_enter Tryz.func92,Tryz.ntmps92
 go_wp2_with fail
 go_loopw [5,6] (fun sv_ iv wr=>∃(i:Nat) (s:Int),sv_=.int .i64 s/\iv=.int .i64 (i:Int)/\i<=E.length/\i<=4/\(E.take i).sum=s/\0<=s/\s<=8*i/\(∀x∈E.take i,0<=x)/\W=wr) (fun _ iv _=>4-(intOf iv).toNat)
 case atStart=>exact ⟨0,0,rfl,rfl,Nat.zero_le _,by decide,by simp,by decide,by decide,by simp,rfl⟩
 case round=>
  obtain ⟨i,s,rfl,rfl,hi,hi4,hs,hs0,hs8,hpos,rfl⟩:=hrel
  by_cases hlt:i<E.length/\i<4
  ·have hlt':(i:Int)<(E.length:Int):=by omega
   have hlt4:(i:Int)<4:=by omega
   obtain ⟨x,hx⟩:∃x,E[i]?=some x:=⟨_,List.getElem?_eq_getElem hlt.1⟩
   obtain ⟨ba,oa,rfl,hba,hcx⟩:=(Xo1 HC).at_ hx
   have hxr:=(Xe3 HC) x (List.mem_of_getElem? hx)
   have hsn:=Qdy hx
   have HS:=Xh4 hs hsn hpos hx
   clear hs hsn hpos hx
   by_cases hx0':x<0
   ·go_wp2_with fail
    go_ret
    have hno:¬(Q0m k E/\Q0h n e L):=fun h=>by
     have:=h.1.2.1 x (List.mem_of_getElem? (Xe3 HS))
     omega
    have hf:rs=false:=by rw[<-HRS.out];exact decide_eq_false hno
    exact ⟨by rw[hf];rfl,(Xo2 HC)⟩
   ·by_cases hx8:8<x
    ·go_wp2_with fail
     go_ret
     have hno:¬(Q0m k E/\Q0h n e L):=fun h=>by
      have:=(Q2a h.1 x (List.mem_of_getElem? (Xe3 HS))).2
      omega
     have hf:rs=false:=by rw[<-HRS.out];exact decide_eq_false hno
     exact ⟨by rw[hf];rfl,(Xo2 HC)⟩
    ·go_wp2_with fail
     refine ⟨⟨i+1,s+x,rfl,congrArg (Value.int .i64) (by omega),by omega,by omega,by rw[(Xo1 HS),(Xo0 HS)],by omega,by omega,fun y hy=>?_,trivial⟩,by simp only[intOf];omega⟩
     obtain ⟨j,hj,hjy⟩:=Qb4 hy
     by_cases hji:j=i
     ·subst hji
      have h5:=(Xe3 HS)
      rw[hjy] at h5
      injection h5 with h5
      omega
     ·exact (Xo2 HS) y (List.mem_iff_getElem?.2 ⟨j,by rw[List.getElem?_take,if_pos (by omega)];exact hjy⟩)
  ·by_cases hk2:E.length=k
   ·have hie:i=E.length:=by omega
    rw[hie,List.take_length] at hs hpos
    have hl1:¬(i:Int)<(E.length:Int):=by omega
    have hkk:((E.length:Int)==(k:Int))=true:=by rw[beq_iff_eq];omega
    have HS:=Xh3 hs hpos hk2
    clear hs hpos hk2 hie
    by_cases h8:s<=8
    ·have hrr:rs=decide (Q0h n e L):=by
      rw[<-HRS.out]
      exact decide_eq_decide.2 ⟨fun h=>h.2,fun h=>⟨⟨(Xe2 HS),(Xo1 HS),by rw[(Xo0 HS)];exact h8⟩,h⟩⟩
     have HR:=Lib.hid hrr
     clear hrr
     go_wp2_with (go_at_call 118;refine (Xo0 HC).mono ?_;rintro r w1 ⟨rfl,hb1⟩;have H1:=Lib.hid hb1;clear hb1)
     go_ret
     exact ⟨by rw[HR.out];rfl,Below.next0 (Xo2 HC) H1.out⟩
    ·have hno:¬(Q0m k E/\Q0h n e L):=fun h=>by
      have:=h.1.2.2
      have:=(Xo0 HS)
      omega
     have hf:rs=false:=by rw[<-HRS.out];exact decide_eq_false hno
     have HR:=Lib.hid hf
     clear hf hno
     go_wp2_with fail
     go_ret
     exact ⟨by rw[HR.out];rfl,(Xo2 HC)⟩
   ·have hkk:((E.length:Int)==(k:Int))=false:=by rw[beq_eq_false_iff_ne];omega
    have hno:¬(Q0m k E/\Q0h n e L):=fun h=>hk2 h.1.1
    have hf:rs=false:=by rw[<-HRS.out];exact decide_eq_false hno
    have HR:=Lib.hid hf
    clear hf hno hs hpos
    by_cases hl1:i<E.length
    ·have hl1':(i:Int)<(E.length:Int):=by omega
     have hl4:¬(i:Int)<4:=by omega
     go_wp2_with fail
     go_ret
     exact ⟨by rw[HR.out];rfl,(Xo2 HC)⟩
    ·have hl1':¬(i:Int)<(E.length:Int):=by omega
     go_wp2_with fail
     go_ret
     exact ⟨by rw[HR.out];rfl,(Xo2 HC)⟩
end Go.Proofs.YtdilmfakkppgpaaGreatDoor
namespace Go.Proofs.YtdilmfakkppgpaaGreatDoor
open Go Go.RowKit
section
variable {P:Program}
def Qsu (P:Program) (ops:Array Oper) (C:World->Prop) (V:Nat->Value->World->Prop) (a0:Act) (n:Nat) (Mid:Value->World->Prop):List Oper->Prop
 |[o,o2]=>(∀a w,C w->Q8n ops a0 a->(∀i∈Q34 o,V i (Q0e ops a i) w)->Q26 P Mid ((execOp a.eval o).run P w))/\n∈Q34 o2/\∀a w,Q8n ops a0 a->(execOp a.eval o2).run P w=.ok (.value (Q0e ops a n)) w
 |_=>False
theorem Qqk {l:List Oper} {n i:Nat} {a:Act} (hn:l.length=n+2) (hi:i≠n+1):Q0e (l.take (n+1)).toArray a i=Q0e l.toArray a i:=by
 unfold Q0e
 have h:(l.take (n+1)).toArray[i]?=l.toArray[i]?:=by
  simp only[List.getElem?_toArray,List.getElem?_take]
  split
  ·rfl
  ·rw[List.getElem?_eq_none (by omega)]
 rw[h]
theorem Qmy {l:List Oper} {n:Nat} {a0 a:Act} (hn:l.length=n+2) (hag:Q8n l.toArray a0 a) (hs:Q0e l.toArray a (n+1)=Q0e l.toArray a0 (n+1)):Q8n (l.take (n+1)).toArray a0 a:=by
 refine ⟨hag.1,hag.2.1,fun t ht=>?_⟩
 obtain ⟨o2,ho2⟩:∃o2,l[n+1]?=some o2:=⟨_,List.getElem?_eq_getElem (by omega)⟩
 by_cases h2:o2.dst=some t
 ·have e1:∀b:Act,Q0e l.toArray b (n+1)=b.tmps.getD t undef:=fun b=>by
   unfold Q0e
   rw[List.getElem?_toArray,ho2,Option.bind_some,h2]
  rw[e1,e1] at hs
  by_cases hlt:t<a0.tmps.size
  ·have hlt':t<a.tmps.size:=by rw[hag.2.1];exact hlt
   rw[Array.getD_eq_getD_getElem?,Array.getD_eq_getD_getElem?,Array.getElem?_eq_getElem hlt,Array.getElem?_eq_getElem hlt',Option.getD_some,Option.getD_some] at hs
   rw[Array.getElem?_eq_getElem hlt,Array.getElem?_eq_getElem hlt',hs]
  ·have hsz:=hag.2.1
   have h3:a0.tmps.size<=t:=Nat.le_of_not_lt hlt
   rw[Array.getElem?_eq_none (xs:=a.tmps) (Nat.le_trans (Nat.le_of_eq hsz) h3),Array.getElem?_eq_none (xs:=a0.tmps) h3]
 ·refine hag.2.2 t fun o ho e=>?_
  obtain ⟨i,hi,rfl⟩:=List.getElem_of_mem ho
  have hi':i<l.length:=by simpa using hi
  by_cases hin:i=n+1
  ·subst hin
   rw[List.getElem?_eq_getElem hi'] at ho2
   injection ho2 with ho2
   exact h2 (by rw[<-ho2];exact e)
  ·refine ht l[i] ?_ e
   rw[List.mem_iff_getElem?]
   refine ⟨i,?_⟩
   show (l.take (n+1))[i]?=_
   rw[List.getElem?_take,if_pos (by omega),List.getElem?_eq_getElem hi']
theorem Q9w {Q:Exit->Act->World->Prop} {id:Nat} {l:List Oper} {a0:Act} {w:World} (hm:P.follows .mixedOrders=true) (I:Qpf) (hN:∀(i:Nat) o,l[i]?=some o->o.dst=none->∀D vs v w,I D (Q2q vs i v) w->I D vs w) (hB:Q6a l a0.tmps.size=true) (h0:I (fun _=>false) (Q0e l.toArray a0) w.drew)
 (step:Q3g P l.toArray I a0 l 0) (fin:∀D vs w,(∀j,j<l.length->D j=true)->I D vs w->Q .normal (Q10 vs l 0 a0) w):(Code.region id l.toArray true).wp P Q a0 w:=
 (wpIn_wide (n:=6)).1 (wpIn_region_any hm (Q80 (fun _=>trivial) rfl (fun m _ _ _ _ h=>callsIn_wide.2 h) I (by simpa using hN) a0 hB (by simpa using step) (by simpa using fin) _ _ _ _ (by simp)
   ⟨by
     have hf:(fun j=>(Array.replicate l.toArray.size false).getD j false)=fun _=>false:=by
      funext j
      rw[Array.getD_eq_getD_getElem?,Array.getElem?_replicate]
      split <;> rfl
     rw[hf];exact h0,⟨rfl,rfl,fun _ _=>rfl⟩,by simp,fun j oj _ hj=>by
     rw[Array.getD_eq_getD_getElem?,Array.getElem?_replicate] at hj
     split at hj <;> cases hj⟩))
theorem Q6z {Q:Exit->Act->World->Prop} {id:Nat} {l:List Oper} {a0:Act} {w:World} (hm:P.follows .mixedOrders=true) (n:Nat) (hn:l.length=n+2) (C:World->Prop) (hC:∀w w',C w->Below w.heap.size w w'->C w') (V:Nat->Value->World->Prop) (hV:∀i v w w',V i v w->Below w.heap.size w w'->V i v w') (Mid:Value->World->Prop)
 (hB:Q6a l a0.tmps.size=true) (hA:Qkv l n=true) (hG:(l.all fun o=>o.guard.isNone)=true) (hD:(l.all fun o=>o.dst.isSome)=true) (h0:C w.drew)
 (step:Q2z P Qi7 (l.take (n+1)).toArray C V a0 (l.take n) 0) (last:Qsu P l.toArray C V a0 n Mid (l.drop n)) (fin:∀vs w,Mid (vs n) w->vs (n+1)=vs n->Q .normal (Q10 vs l 0 a0) w):(Code.region id l.toArray true).wp P Q a0 w:=by
 have hguard:∀(k:Nat) (o:Oper),l[k]?=some o->∀y,Region.wanted o y=true:=fun k o ho y=>by
  have h1:=List.all_eq_true.1 hG o (List.mem_of_getElem? ho)
  unfold Region.wanted
  cases hg:o.guard with
  |none=>rfl
  |some g=>rw[hg] at h1;cases h1
 obtain ⟨o1,o2,hdrop⟩:∃o1 o2,l.drop n=[o1,o2]:=by
  have h1:(l.drop n).length=2:=by rw[List.length_drop];omega
  cases hl:l.drop n with
  |nil=>rw[hl] at h1;cases h1
  |cons x r=>
   cases r with
   |nil=>rw[hl] at h1;cases h1
   |cons y s=>
    cases s with
    |nil=>exact ⟨x,y,rfl⟩
    |cons z s=>rw[hl] at h1;simp at h1
 have ho1:l[n]?=some o1:=by have:=congrArg (fun x=>x[0]?) hdrop;simpa using this
 have ho2:l[n+1]?=some o2:=by have:=congrArg (fun x=>x[1]?) hdrop;simpa using this
 rw[hdrop] at last
 obtain ⟨last1,last2,last3⟩:=last
 have hall:∀(k:Nat) (o:Oper),l[k]?=some o->Q5l P l.toArray (fun D vs w=>(if D n=true then (Mid (vs n) w/\(D (n+1)=true->vs (n+1)=vs n)) else (C w/\∀j,D j=true->V j (vs j) w))/\(D (n+1)=false->vs (n+1)=Q0e l.toArray a0 (n+1))) a0 k o:=by
  intro k o ho a w D hI0 hag hk hdeps hcl
  obtain ⟨hI,hI2⟩:=hI0
  have hkn:k<=n+1:=by have:=(List.getElem?_eq_some_iff.1 ho).1;omega
  refine ⟨hguard k o ho _,?_⟩
  by_cases hk2:k=n+1
  ·subst hk2
   rw[ho2] at ho
   injection ho with ho
   subst ho
   have hDn:D n=true:=hdeps n last2
   simp only[hDn,if_true] at hI
   rw[last3 a w hag]
   show (if Q36 D (n+1) n=true then _ else _)/\_
   have e1:Q36 D (n+1) n=true:=by unfold Q36;rw[if_neg (by omega)];exact hDn
   rw[if_pos e1]
   have e2:Q2q (Q0e l.toArray a) (n+1) (Q0e l.toArray a n) n=Q0e l.toArray a n:=by unfold Q2q;rw[if_neg (by omega)]
   have e3:Q2q (Q0e l.toArray a) (n+1) (Q0e l.toArray a n) (n+1)=Q0e l.toArray a n:=by unfold Q2q;rw[if_pos rfl]
   rw[e2,e3]
   exact ⟨⟨hI.1,fun _=>rfl⟩,fun h=>by rw[Q43] at h;cases h⟩
  ·have hkn':k<=n:=by omega
   have hDn:D n=false:=Qbq hA (D:=D) (fun j oj hj=>hcl j oj (by simpa using hj)) _ k rfl hkn' hk
   have hDn1:D (n+1)=false:=by
    cases hb:D (n+1) with
    |false=>rfl
    |true=>have:=hcl (n+1) o2 (by simpa using ho2) hb n last2;rw[hDn] at this;cases this
   simp only[hDn] at hI
   obtain ⟨hCw,hVw⟩:=hI
   have hS:∀u,Q36 D k (n+1)=false->Q2q (Q0e l.toArray a) k u (n+1)=Q0e l.toArray a0 (n+1):=fun u _=>by unfold Q2q;rw[if_neg (fun e=>hk2 e.symm)];exact hI2 hDn1
   have hdv:∀i∈Q34 o,V i (Q0e l.toArray a i) w:=fun i hi=>hVw i (hdeps i hi)
   by_cases hkl:k=n
   ·subst hkl
    rw[ho1] at ho
    injection ho with ho
    subst ho
    have h1:=last1 a w hCw hag hdv
    have hK:∀u w',Mid u w'->(if Q36 D k k=true then (Mid (Q2q (Q0e l.toArray a) k u k) w'/\(Q36 D k (k+1)=true->Q2q (Q0e l.toArray a) k u (k+1)=Q2q (Q0e l.toArray a) k u k)) else (C w'/\∀j,Q36 D k j=true->V j (Q2q (Q0e l.toArray a) k u j) w')):=fun u w' h=>by
     rw[Q43,if_pos rfl]
     have e1:Q36 D k (k+1)=false:=by unfold Q36;rw[if_neg (by omega)];exact hDn1
     have e2:Q2q (Q0e l.toArray a) k u k=u:=by unfold Q2q;rw[if_pos rfl]
     rw[e1,e2]
     exact ⟨h,fun h=>by cases h⟩
    revert h1
    generalize (execOp a.eval o1).run P w=res
    intro h1
    cases res with
    |ok x w'=>
     cases x with
     |value u=>exact ⟨hK u w' h1,hS u⟩
     |enter f args=>
      refine Calls.mono h1 ?_
      rintro e w'' ⟨v,rfl,hf⟩
      exact ⟨v,rfl,hK v w'' hf,hS v⟩
     |skip=>exact ⟨hK undef w' h1,hS undef⟩
     |_=>exact h1.elim
    |halt x w'=>exact h1.elim
   ·have htake:(l.take n)[k]?=some o:=by rw[List.getElem?_take,if_pos (by omega)];exact ho
    have h1:=Q2z.at_ _ _ _ _ step htake
    rw[Nat.zero_add] at h1
    have h1:=h1 a w hCw (Qmy hn hag (hI2 hDn1)) (fun i hi=>by
     rw[Qqk hn (fun e=>by subst e;have:=hdeps _ hi;rw[hDn1] at this;cases this)]
     exact hdv i hi)
    rw[if_pos (hguard k o ho _)] at h1
    have hK:∀u w',Below w.heap.size w w'->V k u w'->(if Q36 D k n=true then (Mid (Q2q (Q0e l.toArray a) k u n) w'/\(Q36 D k (n+1)=true->Q2q (Q0e l.toArray a) k u (n+1)=Q2q (Q0e l.toArray a) k u n)) else (C w'/\∀j,Q36 D k j=true->V j (Q2q (Q0e l.toArray a) k u j) w')):=fun u w' hb hu=>by
     have e:Q36 D k n=false:=by unfold Q36;rw[if_neg (fun e=>hkl e.symm)];exact hDn
     rw[e,if_neg (by decide)]
     refine ⟨hC _ _ hCw hb,fun j hj=>?_⟩
     unfold Q2q
     unfold Q36 at hj
     by_cases hjk:j=k
     ·subst hjk;rw[if_pos rfl];exact hu
     ·rw[if_neg hjk]
      rw[if_neg hjk] at hj
      exact hV _ _ _ _ (hVw j hj) hb
    revert h1
    generalize (execOp a.eval o).run P w=res
    intro h1
    cases res with
    |ok x w'=>
     cases x with
     |value u=>exact ⟨hK u w' h1.1 h1.2,hS u⟩
     |enter f args=>
      refine Calls.mono h1 ?_
      rintro e w'' ⟨v,rfl,hb,hv⟩
      exact ⟨v,rfl,hK v w'' hb hv,hS v⟩
     |skip=>exact ⟨hK undef w' h1.1 h1.2,hS undef⟩
     |_=>exact h1.elim
    |halt x w'=>exact h1.elim
 have hallX:∀(r:List Oper) (k:Nat),(∀(i:Nat) o,r[i]?=some o->l[k+i]?=some o)->Q3g P l.toArray (fun D vs w=>(if D n=true then (Mid (vs n) w/\(D (n+1)=true->vs (n+1)=vs n)) else (C w/\∀j,D j=true->V j (vs j) w))/\(D (n+1)=false->vs (n+1)=Q0e l.toArray a0 (n+1))) a0 r k:=by
  intro r
  induction r with
  |nil=>intro k _;trivial
  |cons o r ih=>
   intro k h
   refine ⟨hall k o (by simpa using h 0 o rfl),ih (k+1) fun i o' ho'=>?_⟩
   have:=h (i+1) o' (by simpa using ho')
   rwa[show k+(i+1)=k+1+i by omega] at this
 refine Q9w hm (fun D vs w=>(if D n=true then (Mid (vs n) w/\(D (n+1)=true->vs (n+1)=vs n)) else (C w/\∀j,D j=true->V j (vs j) w))/\(D (n+1)=false->vs (n+1)=Q0e l.toArray a0 (n+1))) (fun i o hi hd D vs v w h=>?_) hB ?_ (hallX l 0 fun i o h=>by rw[Nat.zero_add];exact h) (fun D vs w hall h=>?_)
 ·have h1:=List.all_eq_true.1 hD o (List.mem_of_getElem? hi)
  rw[hd] at h1;cases h1
 ·exact ⟨⟨h0,fun j hj=>by cases hj⟩,fun _=>rfl⟩
 ·have hDn:=hall n (by omega)
  have hDn1:=hall (n+1) (by omega)
  simp only[hDn,if_true] at h
  exact fin vs w h.1.1 (h.1.2 hDn1)
end
end Go.Proofs.YtdilmfakkppgpaaGreatDoor
namespace Go.Proofs.YtdilmfakkppgpaaGreatDoor
open Go.RowKit WordsM
def NoD (v:Value):Prop:=∀x:Nat,v≠nv .u32 x
theorem Qab (b:Bool):NoD (.bool b):=fun _=>by simp[nv]
theorem Q5p (a:Option Addr) (n c:Nat):NoD (.slice a n c):=fun _=>by simp[nv]
theorem Qe7 (e:Int):NoD (.int .i64 e):=fun _=>by simp[nv]
theorem Q4b.offD {w:World} {B:Nat} {e:TypeId} {k:Nat} {a:Option Addr} {n c:Nat} {xs:List Value} (h:Q4b NoD w B e k a n c xs) {aw:Option Addr} {l cw v:Nat} (hw:Q0l w aw l cw v):dig (2^32) v=[]∨∃b o,aw=some ⟨b,o,none⟩/\b<w.heap.size/\(∀(j:Nat) x,(dig (2^32) v)[j]?=some x->w.cell? ⟨b,o+j,none⟩=some (nv .u32 x))/\∀y,a=some y->y.block≠b:=by
 rcases hw.rd with h0|⟨b,o,rfl,hb,hc⟩
 ·exact .inl h0
 cases hL:dig (2^32) v with
 |nil=>exact .inl rfl
 |cons y r=>
  rw[hL] at hc
  refine .inr ⟨b,o,rfl,hb,hc,fun z hz e=>?_⟩
  have h1:=hc 0 y rfl
  rcases h.1.form with ⟨h0,_⟩|⟨g,cur,h0,_,_,hh,_⟩
  ·rw[h0] at hz;cases hz
  ·rw[h0] at hz
   injection hz with hz
   subst hz
   have e:g=b:=e
   subst e
   rw[cell_of_row _ _ _ _ _ _ hh] at h1
   exact h.2 g cur _ _ h0 hh _ (Array.mem_toList_iff.2 (Array.mem_of_getElem? h1)) y rfl
theorem Q4b.grownD {w w':World} {B:Nat} {e:TypeId} {k:Nat} {a:Option Addr} {n c:Nat} {xs:List Value} (h:Q4b NoD w B e k a n c xs) (hg:w.grownBy w' (a.map (·.block))) {aw:Option Addr} {l cw v:Nat} (hw:Q0l w aw l cw v):Q0l w' aw l cw v:=by
 refine ⟨hw.len,hw.cap,hw.most,?_⟩
 rcases h.offD hw with h0|⟨b,o,rfl,hb,hc,hne⟩
 ·exact .inl h0
 ·refine .inr ⟨b,o,rfl,Nat.lt_of_lt_of_le hb hg.size,fun j x hx=>(World.cell?_of_block (a:=⟨b,o+j,none⟩) (hg.block b hb fun e=>?_)).trans (hc j x hx)⟩
  cases a with
  |none=>simp at e
  |some z=>
   simp only[Option.map_some,Option.some.injEq] at e
   exact hne z rfl e.symm
theorem Q0l.set1 {w:World} {a:Option Addr} {n c v:Nat} (h:Q0l w a n c v) {p:Addr} {u:Value} (hp:w.cell? p=some u) (hu:NoD u) (x:Value):Q0l (w.setCell p x) a n c v:=by
 refine ⟨h.len,h.cap,h.most,?_⟩
 have:=h.rd.store1 hp hu x
 rwa[World.size_setCell]
def Q5c (w0 w:World):List Q0b->List Value->Prop
 |[],xs=>xs=[]
 |p::r,xs=>∃n a l c e v ae le ce ys,xs=.bool n:: .slice a l c:: .int .i64 e:: .slice ae le ce::ys/\(Q0l w a l c v/\Q37 n v e/\dy (sgn n v) e=p.1/\Q0k w0 ae le ce p.2)/\Q5c w0 w r ys
theorem Q5c.len {w0 w:World}:∀{ts:List Q0b} {xs:List Value},Q5c w0 w ts xs->xs.length=ts.length*4
 |[],_,h=>by cases h;rfl
 |p::r,_,⟨_,_,_,_,_,_,_,_,_,ys,rfl,_,h⟩=>by
  have:=Q5c.len h
  simp only[List.length_cons];omega
theorem Q5c.one {w0 w:World}:∀{ts:List Q0b} {xs:List Value},Q5c w0 w ts xs->∀u∈xs,u.oneCell'=true/\NoD u
 |[],_,h,u,hu=>by cases h;cases hu
 |p::r,_,⟨_,_,_,_,_,_,_,_,_,ys,rfl,_,h⟩,u,hu=>by
  simp only[List.mem_cons] at hu
  rcases hu with rfl|rfl|rfl|rfl|hu
  ·exact ⟨rfl,Qab _⟩
  ·exact ⟨rfl,Q5p _ _ _⟩
  ·exact ⟨rfl,Qe7 _⟩
  ·exact ⟨rfl,Q5p _ _ _⟩
  ·exact Q5c.one h u hu
theorem Q5c.app {w0 w:World} {ts':List Q0b} {ys:List Value} (h':Q5c w0 w ts' ys):∀{ts:List Q0b} {xs:List Value},Q5c w0 w ts xs->Q5c w0 w (ts++ts') (xs++ys)
 |[],_,h=>by cases h;exact h'
 |p::r,_,⟨n,a,l,c,e,v,ae,le,ce,zs,rfl,hg,h⟩=>⟨n,a,l,c,e,v,ae,le,ce,zs++ys,rfl,hg,Q5c.app h' h⟩
theorem Q5c.parts {w0 w:World}:∀{ts:List Q0b} {xs:List Value} (k:Nat),Q5c w0 w ts xs->Q5c w0 w (ts.take k) (xs.take (k*4))/\Q5c w0 w (ts.drop k) (xs.drop (k*4))
 |ts,xs,0,h=>by simp only[Nat.zero_mul,List.take_zero,List.drop_zero];exact ⟨rfl,h⟩
 |[],_,k+1,h=>by cases h;simp only[List.take_nil,List.drop_nil];exact ⟨rfl,rfl⟩
 |p::r,_,k+1,⟨n,a,l,c,e,v,ae,le,ce,zs,rfl,hg,h⟩=>by
  obtain ⟨h1,h2⟩:=Q5c.parts k h
  rw[show (k+1)*4=k*4+4 by omega]
  exact ⟨⟨n,a,l,c,e,v,ae,le,ce,zs.take (k*4),rfl,hg,h1⟩,h2⟩
theorem Q5c.keep {w0 w w':World} (hk:∀{a l c v},Q0l w a l c v->Q0l w' a l c v):∀{ts:List Q0b} {xs:List Value},Q5c w0 w ts xs->Q5c w0 w' ts xs
 |[],_,h=>h
 |_::_,_,⟨n,a,l,c,e,v,ae,le,ce,zs,hx,hg,h⟩=>⟨n,a,l,c,e,v,ae,le,ce,zs,hx,⟨hk hg.1,hg.2⟩,Q5c.keep hk h⟩
theorem Q5c.old {w0 w1 w:World} (hk:∀{a l c E},Q0k w0 a l c E->Q0k w1 a l c E):∀{ts:List Q0b} {xs:List Value},Q5c w0 w ts xs->Q5c w1 w ts xs
 |[],_,h=>h
 |_::_,_,⟨n,a,l,c,e,v,ae,le,ce,zs,hx,hg,h⟩=>⟨n,a,l,c,e,v,ae,le,ce,zs,hx,⟨hg.1,hg.2.1,hg.2.2.1,hk hg.2.2.2⟩,Q5c.old hk h⟩
theorem Q5c.get {w0 w:World}:∀{ts:List Q0b} {xs:List Value} {i:Nat} {p:Q0b},Q5c w0 w ts xs->ts[i]?=some p->∃n a l c e v ae le ce,xs[i*4]?=some (.bool n)/\xs[i*4+1]?=some (.slice a l c)/\xs[i*4+2]?=some (.int .i64 e)/\xs[i*4+3]?=some (.slice ae le ce)/\Q0l w a l c v/\Q37 n v e/\dy (sgn n v) e=p.1/\Q0k w0 ae le ce p.2
 |[],_,i,p,_,hp=>by simp at hp
 |q::r,_,0,p,⟨n,a,l,c,e,v,ae,le,ce,zs,rfl,⟨h1,h2,h3,h4⟩,h⟩,hp=>by
  simp only[List.getElem?_cons_zero,Option.some.injEq] at hp
  subst hp
  exact ⟨n,a,l,c,e,v,ae,le,ce,rfl,rfl,rfl,rfl,h1,h2,h3,h4⟩
 |q::r,_,i+1,p,⟨_,_,_,_,_,_,_,_,_,zs,rfl,_,h⟩,hp=>by
  obtain ⟨n,a,l,c,e,v,ae,le,ce,h0,h1,h2,h3,h4⟩:=Q5c.get (i:=i) h (by simpa using hp)
  rw[show (i+1)*4=i*4+4 by omega]
  exact ⟨n,a,l,c,e,v,ae,le,ce,h0,h1,h2,h3,h4⟩
theorem Q5c.put {w0 w:World} {n':Bool} {a':Option Addr} {l' c' v':Nat} {e':Int} (hd:Q0l w a' l' c' v') (hc:Q37 n' v' e'):∀{ts:List Q0b} {xs:List Value} {i:Nat} {p:Q0b},Q5c w0 w ts xs->ts[i]?=some p->Q5c w0 w (ts.set i (dy (sgn n' v') e',p.2)) (((xs.set (i*4) (.bool n')).set (i*4+1) (.slice a' l' c')).set (i*4+2) (.int .i64 e'))
 |[],_,i,p,_,hp=>by simp at hp
 |q::r,_,0,p,⟨n,a,l,c,e,v,ae,le,ce,zs,rfl,⟨h1,h2,h3,h4⟩,h⟩,hp=>by
  simp only[List.getElem?_cons_zero,Option.some.injEq] at hp
  subst hp
  exact ⟨n',a',l',c',e',v',ae,le,ce,zs,rfl,⟨hd,hc,rfl,h4⟩,h⟩
 |q::r,_,i+1,p,⟨n,a,l,c,e,v,ae,le,ce,zs,rfl,hg,h⟩,hp=>by
  have ih:=Q5c.put hd hc (i:=i) h (by simpa using hp)
  rw[show (i+1)*4=i*4+4 by omega]
  exact ⟨n,a,l,c,e,v,ae,le,ce,_,rfl,hg,ih⟩
def Qql (w:World) (a:Option Addr) (n c:Nat) (ts:List Q0b):Prop:=
 ts.length=n/\n<=c/\c<=9223372036854775807/\(ts=[]∨∃b o,a=some ⟨b,o,none⟩/\b<w.heap.size/\∃xs,Q5c w w ts xs/\∀j u,xs[j]?=some u->w.cell? ⟨b,o+j,none⟩=some u)
theorem Qkw {S:Nat}:∀{l:List Q0b} {c:Q0b},(∀p∈l,bnd S p.1)->bnd S c.1->∀p∈Q6c l c,bnd (S+1) p.1
 |[],c,_,hc,p,h=>by rw[Q6c,List.mem_singleton] at h;subst h;exact hc.more (Nat.le_succ _)
 |q::r,c,hl,hc,p,h=>by
  rw[Q6c] at h
  split at h
  ·rcases List.mem_cons.1 h with rfl|h
   ·exact (hl _ (by simp)).more (Nat.le_succ _)
   ·exact Qkw (fun x hx=>hl x (by simp[hx])) hc p h
  ·split at h
   ·rcases List.mem_cons.1 h with rfl|h
    ·exact (hl q (by simp)).add hc
    ·exact (hl p (by simp[h])).more (Nat.le_succ _)
   ·rcases List.mem_cons.1 h with rfl|h
    ·exact hc.more (Nat.le_succ _)
    ·exact (hl p h).more (Nat.le_succ _)
theorem Q8b {T:Nat} {ts:List Q0b} (h:∀p∈ts,bnd T p.1):∀i,∀p∈Q17 (ts.take i),bnd (T+i) p.1
 |0,p,hp=>by simp[Q17] at hp
 |i+1,p,hp=>by
  cases hi:ts[i]? with
  |none=>
   have:ts.take (i+1)=ts.take i:=by
    rw[List.getElem?_eq_none_iff] at hi
    rw[List.take_of_length_le hi,List.take_of_length_le (by omega)]
   rw[this] at hp
   exact (Q8b h i p hp).more (by omega)
  |some c=>
   rw[List.take_add_one,hi,show ts.take i++Option.toList (some c)=ts.take i++[c] from rfl,Q6o] at hp
   exact Qkw (Q8b h i) ((h c (List.mem_of_getElem? hi)).more (by omega)) p hp
theorem Qkx:∀(l:List Q0b) (c:Q0b),(Q6c l c).length<=l.length+1
 |[],c=>by simp[Q6c]
 |q::r,c=>by
  have:=Qkx r c
  rw[Q6c]
  split
  ·simp only[List.length_cons];omega
  ·split <;> simp
theorem Q8c (ts:List Q0b):∀i,(Q17 (ts.take i)).length<=i
 |0=>by simp[Q17]
 |i+1=>by
  cases hi:ts[i]? with
  |none=>
   have:ts.take (i+1)=ts.take i:=by
    rw[List.getElem?_eq_none_iff] at hi
    rw[List.take_of_length_le hi,List.take_of_length_le (by omega)]
   rw[this]
   have:=Q8c ts i;omega
  |some c=>
   rw[List.take_add_one,hi,show ts.take i++Option.toList (some c)=ts.take i++[c] from rfl,Q6o]
   have h1:=Q8c ts i
   have h2:=Qkx (Q17 (ts.take i)) c
   omega
theorem Qj8 {c:Q0b}:∀(l:List Q0b) (k:Nat),k<=l.length->(∀j p,j<k->l[j]?=some p->0<Q2v p.2 c.2)->Q6c l c=l.take k++Q6c (l.drop k) c
 |l,0,_,_=>by simp
 |[],k+1,h,_=>by simp at h
 |q::r,k+1,h,hj=>by
  rw[Q6c,if_pos (hj 0 q (by omega) rfl),Qj8 r k (by simpa using h) (fun j p hjk hp=>hj (j+1) p (by omega) (by simpa using hp))]
  rfl
theorem Qqm {c p:Q0b} {l:List Q0b} {k:Nat} (hk:∀j p,j<k->l[j]?=some p->0<Q2v p.2 c.2) (hp:l[k]?=some p) (he:Q2v p.2 c.2=0):Q6c l c=l.set k (p.1+c.1,p.2):=by
 have hlt:=(List.getElem?_eq_some_iff.1 hp).1
 rw[Qj8 l k (Nat.le_of_lt hlt) hk,Q6i l k p hp,Q6c,if_neg (by omega),if_pos ((Q6b _ _).1 he),List.set_eq_take_append_cons_drop,if_pos hlt]
theorem Qgp {c:Q0b} {l:List Q0b} {k:Nat} (hkl:k<=l.length) (hk:∀j p,j<k->l[j]?=some p->0<Q2v p.2 c.2) (hp:∀p,l[k]?=some p->Q2v p.2 c.2<0):Q6c l c=l.take k++(c::l.drop k):=by
 rw[Qj8 l k hkl hk]
 cases hd:l[k]? with
 |none=>
  rw[List.getElem?_eq_none_iff] at hd
  rw[List.drop_of_length_le hd,Q6c]
 |some p=>
  have h1:=hp p hd
  rw[Q6i l k p hd,Q6c,if_neg (by omega),if_neg (fun e=>by rw[(Q6b _ _).2 e] at h1;omega)]
theorem Q60:Tryz.prog.underlying 142=some (.slice (Tryz.prog.elem 142)):=by kernel_rfl
theorem Qgq (w:World):(sizeOf (Tryz.prog.elem 142)).run Tryz.prog w=.ok 4 w:=by kernel_rfl
theorem Qgr:(Tryz.prog.info? 144).map (fun i=>(i.zero,i.size,i.bytes))=some (some (.agg #[.bool false,.slice none 0 0,.int .i64 0,.slice none 0 0]),4,64):=by kernel_rfl
theorem Qgs (w:World) (a:Option Addr) (n c k:Nat) (h1:k<=n):
 (Instr.slice 142 (.slice a n c) (some (.int .i64 (k:Int))) none none).run Tryz.prog w=.ok (.slice (Qnm a c k 4) (n-k) (c-k)) w:=by
 rw[run_slice_l w _ a n c Q60 .i64 (k:Int) (by omega) (by omega),Qgq]
 show Result.ok (Value.slice (Qnm a c ((k:Int).toNat) 4) _ _) w=_
 rw[Int.toNat_natCast]
theorem Qgt (w:World) (a:Option Addr) (n c k:Nat) (h2:k<=c):
 (Instr.slice 142 (.slice a n c) none (some (.int .i64 (k:Int))) none).run Tryz.prog w=.ok (.slice a k c) w:=by
 rw[run_slice_h w _ a n c Q60 .i64 (k:Int) (by omega) (by omega),Qgq]
 have:=Qai a c 4
 show Result.ok (Value.slice (Qnm a c 0 4) _ _) w=_
 rw[this,Nat.sub_zero,Nat.sub_zero,Int.toNat_natCast]
theorem Qmz (w:World) (r:Option Nat):w.grownBy w r:=⟨rfl,rfl,rfl,Nat.le_refl _,fun _ _ _=>rfl⟩
theorem Qj9 {w w':World} {B:Nat} {w0:World} (h:w.grownBy w' none) (hb:Below B w0 w) (hB:B<=w.heap.size):Below B w0 w':=
 hb.trans ⟨h.os,h.tape,h.output,h.size,fun z hz=>h.block z (Nat.lt_of_lt_of_le hz hB) (fun e=>by cases e)⟩
theorem Q53 (ty:TypeId) (w:World) (B:Nat) (hB:B<=w.heap.size) (a:Option Addr) (n c:Nat) (xs:List Value) (h:Q4b NoD w B 144 4 a n c xs) (b:Option Addr) (m d:Nat) (ys:List Value) (hl:ys.length=m*4) (hy:m=0∨∃x,b=some x/\∀j u,ys[j]?=some u->w.cell? (x.add j)=some u) (h1:∀u∈ys,u.oneCell'=true/\NoD u) (hn:n+m<=100000):
 ∃a' c' w',(Builtin.append_ #[142,142] ty #[.slice a n c,.slice b m d]).run Tryz.prog w=.ok (.slice a' (n+m) c') w'/\Q4b NoD w' B 144 4 a' (n+m) c' (xs++ys)/\w.grownBy w' (a.map (·.block))/\(a'=a∨∀y,a'=some y->y.block=w.heap.size):=by
 obtain ⟨i0,hi0,hz0,hz1,hz2⟩:=Q0t Qgr
 rcases Nat.eq_zero_or_pos m with rfl|hm
 ·obtain rfl:ys=[]:=List.length_eq_zero_iff.1 (by omega)
  exact ⟨a,c,w,Q77 w _ ty _ i0 Q60 hi0 a b n c d h.1.cap.1,by simpa using h,Qmz _ _,.inl rfl⟩
 ·rcases hy with h0|⟨x,rfl,hx⟩
  ·omega
  obtain ⟨g,c',w',hrun,hrow,hgr,hat⟩:=Q5k (P:=Tryz.prog) NoD w 142 ty 144 i0 _ 4 64 Q60 hi0 hz0 hz1 hz2 rfl (by
   intro u hu
   simp[Value.cells] at hu
   rcases hu with rfl|rfl|rfl|rfl
   ·exact Qab _
   ·exact Q5p _ _ _
   ·exact Qe7 _
   ·exact Q5p _ _ _) B hB a n c xs h x m d ys hl hx (fun u hu=>(h1 u hu).1) (fun u hu=>(h1 u hu).2) hm (by omega) (by decide) (by decide)
  refine ⟨_,c',w',hrun,hrow,hgr,?_⟩
  rcases hat with h0|h0
  ·exact .inl h0.symm
  ·exact .inr fun y hy=>by injection hy with hy;subst hy;exact h0
theorem Q4b.src {Pr:Value->Prop} {w:World} {B:Nat} {e:TypeId} {n c:Nat} {a:Option Addr} {xs:List Value} (h:Q4b Pr w B e 4 a n c xs) (k m:Nat) (hkm:k+m=n):m=0∨∃x,Qnm a c k 4=some x/\∀j u,((xs.drop (k*4)).take (m*4))[j]?=some u->w.cell? (x.add j)=some u:=by
 rcases Nat.eq_zero_or_pos m with h0|hm
 ·exact .inl h0
 refine .inr ?_
 rcases h.1.form with ⟨_,h0,_⟩|⟨g,cur,rfl,_,_,_⟩
 ·omega
 have hc:=h.1.cap.1
 refine ⟨⟨g,k*4,none⟩,?_,fun j u hj=>?_⟩
 ·unfold Qnm
  rw[if_neg (by omega)]
  simp[Addr.add_lit]
 ·rw[List.getElem?_take] at hj
  split at hj
  ·rw[List.getElem?_drop] at hj
   obtain ⟨g',e',_,_,hcell⟩:=h.1.at_ hj
   injection e' with e'
   injection e' with e'
   subst e'
   rw[Addr.add_lit];exact hcell
  ·cases hj
theorem Qda (w0 wr:World) (hb:Below w0.heap.size w0 wr) (ao:Option Addr) (m co:Nat) (xs:List Value) (out:List Q0b) (hlen:out.length=m) (hrow:Q4b NoD wr w0.heap.size 144 4 ao m co xs) (henc:Q5c w0 wr out xs) (k:Nat) (hk:k<=m) (cc:Q0b) (lit:List Value) (hlit:Q5c w0 wr [cc] lit) (hm:m<=10000):
 ∃a7 c7 w7,(Builtin.append_ #[142,142] 142 #[.slice none 0 0,.slice ao k co]).run Tryz.prog wr=.ok (.slice a7 k c7) w7/\Below w0.heap.size w0 w7/\
  ∃a8 c8 w8,(Builtin.append_ #[142,142] 142 #[.slice a7 k c7,.slice (some ⟨w7.heap.size,0,none⟩) 1 1]).run Tryz.prog (w7.alloc (.cells lit.toArray 144))=.ok (.slice a8 (k+1) c8) w8/\Below w0.heap.size w0 w8/\
   ∃a9 c9 w9,(Builtin.append_ #[142,142] 142 #[.slice a8 (k+1) c8,.slice (Qnm ao co k 4) (m-k) (co-k)]).run Tryz.prog w8=.ok (.slice a9 (m+1) c9) w9/\Below w0.heap.size w0 w9/\
    Q4b NoD w9 w0.heap.size 144 4 a9 (m+1) c9 (xs.take (k*4)++lit++xs.drop (k*4))/\Q5c w0 w9 (out.take k++cc::out.drop k) (xs.take (k*4)++lit++xs.drop (k*4)):=by
 have hxl:xs.length=m*4:=by rw[henc.len,hlen]
 have hone:=fun u hu=>henc.one u hu
 have hB:=hb.size
 obtain ⟨hp1,hp2⟩:=henc.parts k
 --the front
 have hs7:k=0∨∃x,ao=some x/\∀j u,(xs.take (k*4))[j]?=some u->wr.cell? (x.add j)=some u:=by
  rcases Nat.eq_zero_or_pos k with h0|hpos
  ·exact .inl h0
  ·rcases hrow.1.form with ⟨_,h0,_⟩|⟨g,cur,rfl,_,_,_⟩
   ·omega
   ·refine .inr ⟨⟨g,0,none⟩,rfl,fun j u hj=>?_⟩
    rw[List.getElem?_take] at hj
    split at hj
    ·obtain ⟨g',e',_,_,hcell⟩:=hrow.1.at_ hj
     injection e' with e'
     injection e' with e'
     subst e'
     rw[Addr.add_lit,Nat.zero_add];exact hcell
    ·cases hj
 obtain ⟨a7,c7,w7,hrun7,hrow7,hgr7,hat7⟩:=Q53 142 wr w0.heap.size hB none 0 0 [] (Q4b.nil_ _ _ _ _ _) ao k co (xs.take (k*4)) (by rw[List.length_take,hxl];omega) hs7 (fun u hu=>hone u (List.mem_of_mem_take hu)) (by omega)
 rw[Nat.zero_add,List.nil_append] at hrow7
 rw[Nat.zero_add] at hrun7
 have hgr7':wr.grownBy w7 none:=hgr7
 have hb7:=Qj9 hgr7' hb hB
 have hbw7:Below wr.heap.size wr w7:=⟨hgr7'.os,hgr7'.tape,hgr7'.output,hgr7'.size,fun z hz=>hgr7'.block z hz (fun e=>by cases e)⟩
 refine ⟨a7,c7,w7,hrun7,hb7,?_⟩
 --the term
 have hal:Below w7.heap.size w7 (w7.alloc (.cells lit.toArray 144)):=(Below.refl _ _).alloc (Nat.le_refl _) _
 have hll:lit.length=4:=by rw[hlit.len];rfl
 have hb7a:=Below.next0 hb7 hal
 obtain ⟨a8,c8,w8,hrun8,hrow8,hgr8,hat8⟩:=Q53 142 (w7.alloc (.cells lit.toArray 144)) w0.heap.size hb7a.size a7 k c7 (xs.take (k*4)) (hrow7.step hal) (some ⟨w7.heap.size,0,none⟩) 1 1 lit (by rw[hll]) (.inr ⟨_,rfl,fun j u hj=>by
  rw[Addr.add_lit,Nat.zero_add,cell_of_row _ _ _ _ _ _ (heap_alloc_new _ _)]
  simpa using hj⟩) (fun u hu=>hlit.one u hu) (by omega)
 have hne7:∀z,z<wr.heap.size->a7.map (·.block)≠some z:=fun z hz e=>by
  cases a7 with
  |none=>simp at e
  |some y=>
   simp only[Option.map_some,Option.some.injEq] at e
   rcases hat7 with h0|h0
   ·cases h0
   ·have:=h0 y rfl;omega
 have hb8:Below w0.heap.size w0 w8:=hb7a.trans ⟨hgr8.os,hgr8.tape,hgr8.output,hgr8.size,fun z hz=>hgr8.block z (Nat.lt_of_lt_of_le hz hb7a.size) (fun e=>hne7 z (by omega) e.symm)⟩
 have hb8r:Below wr.heap.size wr w8:=(Below.next0 hbw7 hal).trans ⟨hgr8.os,hgr8.tape,hgr8.output,hgr8.size,fun z hz=>hgr8.block z (Nat.lt_of_lt_of_le hz (Below.next0 hbw7 hal).size) (fun e=>hne7 z hz e.symm)⟩
 refine ⟨a8,c8,w8,hrun8,hb8,?_⟩
 --the rest
 have hsrc9:=(hrow.step hb8r).src k (m-k) (by omega)
 have htk:(xs.drop (k*4)).take ((m-k)*4)=xs.drop (k*4):=List.take_of_length_le (by rw[List.length_drop,hxl,Nat.sub_mul];omega)
 rw[htk] at hsrc9
 obtain ⟨a9,c9,w9,hrun9,hrow9,hgr9,hat9⟩:=Q53 142 w8 w0.heap.size hb8.size a8 (k+1) c8 (xs.take (k*4)++lit) hrow8 (Qnm ao co k 4) (m-k) (co-k) (xs.drop (k*4)) (by rw[List.length_drop,hxl,Nat.sub_mul]) hsrc9 (fun u hu=>hone u (List.mem_of_mem_drop hu)) (by omega)
 rw[show k+1+(m-k)=m+1 by omega] at hrun9 hrow9
 have hne8:∀z,z<wr.heap.size->a8.map (·.block)≠some z:=fun z hz e=>by
  rcases hat8 with h0|h0
  ·rw[h0] at e;exact hne7 z hz e
  ·cases a8 with
   |none=>simp at e
   |some y=>
    simp only[Option.map_some,Option.some.injEq] at e
    have h1:=h0 y rfl
    have h2:=(Below.next0 hbw7 hal).size
    omega
 have hb9:Below w0.heap.size w0 w9:=hb8.trans ⟨hgr9.os,hgr9.tape,hgr9.output,hgr9.size,fun z hz=>hgr9.block z (Nat.lt_of_lt_of_le hz hb8.size) (fun e=>hne8 z (by omega) e.symm)⟩
 refine ⟨a9,c9,w9,hrun9,hb9,hrow9,?_⟩
 have hkeep:∀{a l c v},Q0l wr a l c v->Q0l w9 a l c v:=fun h=>hrow8.grownD hgr9 (h.step hb8r)
 have h1:=(hp1.keep hkeep)
 have h2:=(hp2.keep hkeep)
 have h3:=(hlit.keep hkeep)
 have:=Q5c.app h2 (Q5c.app h3 h1)
 rwa[show out.take k++[cc]++out.drop k=out.take k++cc::out.drop k by simp] at this
end Go.Proofs.YtdilmfakkppgpaaGreatDoor
