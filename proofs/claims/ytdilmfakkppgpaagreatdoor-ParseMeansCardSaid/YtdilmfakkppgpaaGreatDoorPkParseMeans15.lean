/- Part 15 of the proof of LawParseMeans: PolyC, PolyD, PolyE, PolyF, PolyG, PolyH. Condition: as each theorem says; none at the end. -/
import Derived.DeepKeys4
import Derived.Maps.Keyed
import Derived.Maps.OwnSet
import Derived.Maps.Views
import Derived.Test.YtdilmfakkppgpaaGreatDoorPkParseMeans14
set_option maxRecDepth 100000
set_option maxHeartbeats 16000000
namespace Go.Proofs.YtdilmfakkppgpaaGreatDoor
open Go.RowKit WordsM
theorem Qrt (u0 u1 u2:Value) (b:Option Addr) (m d:Nat) (E:List Int) (w:World) (hE:Q0k w b m d E) (hr:Q0m m E):
 Calls Tryz.prog 46 #[.agg #[u0,u1,u2,.slice b m d]] w fun r w'=>r=.returned (.int .i64 E.sum)/\Below w.heap.size w w':=by
 have hb1:Below w.heap.size w (w.alloc (.cells #[u0,u1,u2,.slice b m d] 44)):=(Below.refl _ _).alloc (Nat.le_refl _) _
 have hX:=Q2s.new w u0 u1 u2 (.slice b m d) 44
 generalize hW:w.alloc (.cells #[u0,u1,u2,.slice b m d] 44)=W at hb1 hX
 have hx3:=hX.c3
 have hln:=hE.len
 subst hln
 have hcm:=Nat.le_trans hE.cap hE.most
 have HC:=Xh3 (hE.rd.below hb1) hb1 hr
 clear hb1 hX hE hr
 go_enter Tryz.func46,Tryz.ntmps46
 go_wp2_with fail
 go_loopw [3,9] (fun sv iv wr=>∃(i:Nat) (s:Int),sv=.int .i64 s/\iv=.int .i64 (i:Int)/\i<=E.length/\(E.take i).sum=s/\0<=s/\s<=8/\W=wr) (fun _ iv _=>E.length-(intOf iv).toNat)
 case atStart=>exact ⟨0,0,rfl,rfl,Nat.zero_le _,by simp,by decide,by decide,rfl⟩
 case round=>
  obtain ⟨i,s,rfl,rfl,hi,hs,hs0,hs8,rfl⟩:=hrel
  by_cases hlt:i<E.length
  ·have hlt':(i:Int)<(E.length:Int):=by omega
   obtain ⟨x,hx⟩:∃x,E[i]?=some x:=⟨_,List.getElem?_eq_getElem hlt⟩
   obtain ⟨ba,oa,hae,hba,hcx⟩:=(Xo0 HC).at_ hx
   subst hae
   have hxs:=Q2a (Xe2 HC) x (List.mem_of_getElem? hx)
   have hsn:=Qdy hx
   have ht:=(Qa5 (Xo3 HC) (i+1)).2
   have h8:=(Xe4 HC)
   have HS:=Xh4 hs hsn ht h8
   clear hs hsn hx ht h8
   go_wp2_with fail
   refine ⟨⟨i+1,s+x,rfl,by simp,by omega,by rw[(Xo1 HS),(Xo0 HS)],by omega,?_,trivial⟩,by simp only[intOf];omega⟩
   have h1:=(Xo0 HS)
   have h2:=(Xo1 HS)
   have h3:=(Xo2 HS)
   have h4:=(Xe3 HS)
   omega
  ·obtain rfl:i=E.length:=by omega
   have hlt':¬((E.length:Int)<(E.length:Int)):=by omega
   rw[List.take_length] at hs
   subst hs
   go_wp2_with fail
   go_ret
   exact ⟨rfl,(Xo1 HC)⟩
def Q49 (w:World) (a:Option Addr) (n c:Nat) (F:List (List Q05)):Prop:=
 F.length=n/\n<=c/\c<=9223372036854775807/\(F=[]∨∃b o,a=some ⟨b,o,none⟩/\b<w.heap.size/\∀j ms,F[j]?=some ms->∃p l d,w.cell? ⟨b,o+j,none⟩=some (.slice p l d)/\Q0c w p l d ms)
theorem Q49.step {w w':World} {a:Option Addr} {n c:Nat} {F:List (List Q05)} (h:Q49 w a n c F) (hb:Below w.heap.size w w'):Q49 w' a n c F:=by
 obtain ⟨h1,h2,h3,h4⟩:=h
 refine ⟨h1,h2,h3,?_⟩
 rcases h4 with h4|⟨b,o,h5,h6,h7⟩
 ·exact .inl h4
 ·refine .inr ⟨b,o,h5,Nat.lt_of_lt_of_le h6 hb.size,fun j ms hm=>?_⟩
  obtain ⟨p,l,d,h8,h9⟩:=h7 j ms hm
  exact ⟨p,l,d,(hb.cell (p:=⟨b,o+j,none⟩) h6).trans h8,h9.step hb⟩
def Q5b (F:List (List Q05)):Prop:=1<=F.length/\F.length<=4/\∀ms∈F,Q0s F.length ms
theorem Qc6 (a:Option Addr) (n c:Nat) (F:List (List Q05)) (w:World) (h:Q49 w a n c F):
 Calls Tryz.prog 30 #[.slice a n c] w fun r w'=>Q6e (Q5b F) r/\Below w.heap.size w w':=by
 have hln:=h.1
 subst hln
 have hcm:=Nat.le_trans h.2.1 h.2.2.1
 have HM:=Lib.hid h
 clear h
 go_enter Tryz.func30,Tryz.ntmps30
 go_wp2_with fail
 go_loopw [7] (fun iv wr=>∃i:Nat,iv=.int .i64 (i:Int)/\i<=F.length/\(∀j ms,j<i->F[j]?=some ms->Q0s F.length ms)/\Below w.heap.size w wr) (fun iv _=>F.length-(intOf iv).toNat)
 case atStart=>exact ⟨0,rfl,Nat.zero_le _,fun j m h=>absurd h (Nat.not_lt_zero _),Below.refl _ _⟩
 case round=>
  obtain ⟨i,rfl,hi,hok,hb⟩:=hrel
  by_cases hlt:i<F.length
  ·have hlt':(i:Int)<(F.length:Int):=by omega
   obtain ⟨ms,hm⟩:∃ms,F[i]?=some ms:=⟨_,List.getElem?_eq_getElem hlt⟩
   obtain ⟨b0,o0,rfl,hb0,hat⟩:∃b o,a=some ⟨b,o,none⟩/\b<wr.heap.size/\∀j ms,F[j]?=some ms->∃p l d,wr.cell? ⟨b,o+j,none⟩=some (.slice p l d)/\Q0c wr p l d ms:=by
    rcases (HM.out.step hb).2.2.2 with h0|h0
    ·rw[h0] at hlt;simp at hlt
    ·exact h0
   obtain ⟨p,l,d,hcx,hms⟩:=hat i ms hm
   have hpr:=Q2d p l d ms F.length wr hms hcm
   have HA:=Xh4 hok hb hm hpr
   clear hok hb hm hpr hat hms
   by_cases hr:Q0s F.length ms
   ·have hpr:Calls Tryz.prog 45 #[.slice p l d,.int .i64 (F.length:Int)] wr fun r w'=>r=.returned (.bool true)/\Below wr.heap.size wr w':=(Xe3 HA).mono (by
     rintro r w' ⟨⟨b,rfl,hbb⟩,hb'⟩
     rw[hbb.2 hr];exact ⟨rfl,hb'⟩)
    have HR:=Xh2 hpr hr
    clear hpr hr
    go_wp2_with (refine (Xo0 HR).mono ?_;rintro r w1 ⟨rfl,hb1⟩;have HB1:=Lib.hid hb1;clear hb1)
    refine ⟨⟨i+1,by simp,by omega,fun j x hj hx=>?_,Below.next0 (Xo1 HA) HB1.out⟩,by simp only[intOf];omega⟩
    by_cases hji:j=i
    ·subst hji
     have:=(Xo2 HA)
     rw[hx] at this
     injection this with this
     rw[this];exact (Xe1 HR)
    ·exact (Xo0 HA) j x (by omega) hx
   ·have hpr:Calls Tryz.prog 45 #[.slice p l d,.int .i64 (F.length:Int)] wr fun r w'=>r=.returned (.bool false)/\Below wr.heap.size wr w':=(Xe3 HA).mono (by
     rintro r w' ⟨⟨b,rfl,hbb⟩,hb'⟩
     cases b
     ·exact ⟨rfl,hb'⟩
     ·exact absurd (hbb.1 rfl) hr)
    have hno:¬Q5b F:=fun h=>hr (h.2.2 ms (List.mem_of_getElem? (Xo2 HA)))
    have HR:=Xh2 hpr hno
    clear hpr hr hno
    go_wp2_with (refine (Xo0 HR).mono ?_;rintro r w1 ⟨rfl,hb1⟩;have HB1:=Lib.hid hb1;clear hb1)
    go_ret
    exact ⟨Q6e.no (Xe1 HR) rfl,Below.next0 (Xo1 HA) HB1.out⟩
  ·obtain rfl:i=F.length:=by omega
   have hlt':¬((F.length:Int)<(F.length:Int)):=by omega
   have hall:∀ms∈F,Q0s F.length ms:=fun m hm=>by
    obtain ⟨j,hj⟩:=List.mem_iff_getElem?.1 hm
    exact hok j m (List.getElem?_eq_some_iff.1 hj).1 hj
   have HF:=Xh2 hall hb
   clear hall hb hok
   by_cases k1:1<=F.length
   ·have k1':(1:Int)<=(F.length:Int):=by omega
    by_cases k4:F.length<=4
    ·have k4':(F.length:Int)<=4:=by omega
     go_wp2_with fail
     go_ret
     exact ⟨Q6e.yes ⟨k1,k4,(Xo0 HF)⟩ rfl,(Xe1 HF)⟩
    ·have k4':¬(F.length:Int)<=4:=by omega
     go_wp2_with fail
     go_ret
     exact ⟨Q6e.no (fun h=>k4 h.2.1) rfl,(Xe1 HF)⟩
   ·have k1':¬(1:Int)<=(F.length:Int):=by omega
    go_wp2_with fail
    go_ret
    exact ⟨Q6e.no (fun h=>k1 h.1) rfl,(Xe1 HF)⟩
def Qik (ms:List Q05):Int:=Qlt (ms.map Q05.term)
theorem Qp7 {ms:List Q05} {i:Nat} {m:Q05} (h:ms[i]?=some m):Qik (ms.take (i+1))=max (Qik (ms.take i)) m.es.sum:=by
 unfold Qik Qlt
 rw[List.take_add_one,h,List.map_append,List.foldl_append]
 rfl
theorem Qcs (a:Option Addr) (n c:Nat) (ms:List Q05) (k:Nat) (w:World) (h:Q0c w a n c ms) (hr:Q0s k ms):
 Calls Tryz.prog 18 #[.slice a n c] w fun r w'=>r=.returned (.int .i64 (Qik ms))/\Below w.heap.size w w':=by
 have hln:=h.1
 subst hln
 have hcm:=Nat.le_trans h.2.1 h.2.2.1
 by_cases h0:ms=[]
 ·subst h0
  go_enter Tryz.func18,Tryz.ntmps18
  go_wp2_with fail
  go_ret
  exact ⟨rfl,Below.refl _ _⟩
 have hpos:0<ms.length:=by
  cases ms with
  |nil=>exact absurd rfl h0
  |cons x r=>simp
 have hposb:((ms.length:Int)==0)=false:=by rw[beq_eq_false_iff_ne];omega
 have hposI:(0:Int)<(ms.length:Int):=by omega
 obtain ⟨m0,hm0⟩:∃m,ms[0]?=some m:=⟨_,List.getElem?_eq_getElem hpos⟩
 obtain ⟨b0,o0,rfl,hb0,hat⟩:∃b o,a=some ⟨b,o,none⟩/\b<w.heap.size/\∀j m,ms[j]?=some m->Q4a w b (o+j*4) m:=by
  rcases h.2.2.2 with h1|h1
  ·exact absurd h1 h0
  ·exact h1
 obtain ⟨aw,lw,cw,ae,le,ce,z0,z1,z2,z3,hw0,he0,_,_⟩:=hat 0 m0 hm0
 have hk:le=k:=by rw[<-he0.len];exact (hr.2.2.2.1 m0 (List.mem_of_getElem? hm0)).1.1.1
 subst hk
 have hpr:Calls Tryz.prog 45 #[.slice (some ⟨b0,o0,none⟩) ms.length c,.int .i64 (le:Int)] w fun r w'=>r=.returned (.bool true)/\Below w.heap.size w w':=(Q2d (some ⟨b0,o0,none⟩) ms.length c ms le w h (by have:=hr.2.1;omega)).mono (by
  rintro r w' ⟨⟨b,rfl,hbb⟩,hb'⟩
  rw[hbb.2 hr];exact ⟨rfl,hb'⟩)
 rw[Nat.zero_mul,Nat.add_zero] at z3
 have HM:=Xh3 h hr hpr
 clear h hr hpr hat hw0 he0 z0 z1 z2 h0 hm0
 go_enter Tryz.func18,Tryz.ntmps18
 go_wp2_with (refine (Xe2 HM).mono ?_;rintro r w1 ⟨rfl,hb1⟩;have HB1:=Lib.hid hb1;clear hb1)
 go_loopw [3,21] (fun sv iv wr=>∃i:Nat,sv=.int .i64 (Qik (ms.take i))/\iv=.int .i64 (i:Int)/\i<=ms.length/\Below w.heap.size w wr) (fun _ iv _=>ms.length-(intOf iv).toNat)
 case atStart=>exact ⟨0,rfl,rfl,Nat.zero_le _,HB1.out⟩
 case round=>
  obtain ⟨i,rfl,rfl,hi,hb⟩:=hrel
  by_cases hlt:i<ms.length
  ·have hlt':(i:Int)<(ms.length:Int):=by omega
   obtain ⟨m,hm⟩:∃m,ms[i]?=some m:=⟨_,List.getElem?_eq_getElem hlt⟩
   have hat:∀j m,ms[j]?=some m->Q4a wr b0 (o0+j*4) m:=by
    rcases ((Xo0 HM).step hb).2.2.2 with h1|⟨b,o,h2,h3,h4⟩
    ·rw[h1] at hlt;simp at hlt
    ·injection h2 with h2;injection h2 with h5 h6;subst h5;subst h6;exact h4
   obtain ⟨bw,lw2,cw2,be,le2,ce2,k0,k1,k2,k3,hw,he,_,_⟩:=hat i m hm
   have hB0:Below wr.heap.size wr (wr.alloc (.cells #[.bool m.neg,.int .i64 m.exp,.slice bw lw2 cw2,.slice be le2 ce2] 44)):=(Below.refl _ _).alloc (Nat.le_refl _) _
   have hX:=Q2s.new wr (.bool m.neg) (.int .i64 m.exp) (.slice bw lw2 cw2) (.slice be le2 ce2) 44
   have hre:=((Xo1 HM).2.2.2.1 m (List.mem_of_getElem? hm)).1.1
   have hre2:Q0m le2 m.es:=by rw[<-he.len];exact ⟨rfl,hre.2⟩
   generalize hW0:wr.alloc (.cells #[.bool m.neg,.int .i64 m.exp,.slice bw lw2 cw2,.slice be le2 ce2] 44)=W0 at hB0 hX
   obtain ⟨x0,x1,x2,x3,_,_,_,_⟩:=hX
   have hsz:=Qrt (.bool m.neg) (.int .i64 m.exp) (.slice bw lw2 cw2) be le2 ce2 m.es W0 (he.step hB0) hre2
   have hdt:=Qp7 hm
   obtain ⟨D,hD⟩:∃D,Qik (ms.take i)=D:=⟨_,rfl⟩
   obtain ⟨S,hS⟩:∃S,m.es.sum=S:=⟨_,rfl⟩
   rw[hD,hS] at hdt
   rw[hS] at hsz
   rw[hD]
   have HA:=Xh3 hsz hdt (Below.next0 hb hB0)
   clear hsz hdt hb hB0 hat hw he hre hre2 hm hD hS
   go_wp2_with (refine (Xo0 HA).mono ?_;rintro r w2 ⟨rfl,hb2⟩;have HB2:=Lib.hid hb2;clear hb2)
   refine ⟨⟨i+1,?_,by simp,by omega,Below.next0 (Xe2 HA) HB2.out⟩,by simp only[intOf];omega⟩
   rw[(Xo1 HA)]
  ·obtain rfl:i=ms.length:=by omega
   have hlt':¬((ms.length:Int)<(ms.length:Int)):=by omega
   rw[List.take_length]
   have HB:=Lib.hid hb
   clear hb
   go_wp2_with fail
   go_ret
   exact ⟨rfl,HB.out⟩
def zv (x:Int):Value:=.int .i64 x
theorem Qt9 (E:List Int):∀u∈E.map zv,u.oneCell'=true:=by
 intro u hu
 obtain ⟨x,_,rfl⟩:=List.mem_map.1 hu
 rfl
theorem Q7z:(Tryz.prog.info? 3).map (fun i=>(i.zero,i.size,i.bytes))=some (some (.int .i64 0),1,8):=by kernel_rfl
theorem Qru:∀w,(Go.sizeOf 3).run Tryz.prog w=.ok 1 w:=by intro w;kernel_rfl
theorem Row.ints {w:World} {B:Nat} {a:Option Addr} {n c:Nat} {E:List Int} (h:Row w B 3 1 a n c (E.map zv)) (hr:∀x∈E,-9223372036854775808<=x/\x<=9223372036854775807):Q0k w a n c E:=by
 have hl:=h.len
 simp only[List.length_map,Nat.mul_one] at hl
 refine ⟨hl,h.cap.1,by have:=h.cap.2;simpa[maxLen] using this,⟨hr,?_⟩,?_⟩
 ·intro b o e
  rcases h.form with ⟨h1,_⟩|⟨g,cur,rfl,_⟩
  ·rw[h1] at e;cases e
  ·cases e;rfl
 rcases h.form with ⟨_,_,_,h0⟩|⟨g,cur,rfl,_,hg,_⟩
 ·exact .inl (by simpa using h0)
 ·refine .inr ⟨g,0,rfl,hg,fun j x hx=>?_⟩
  rw[Nat.zero_add]
  exact h.cell0 (by rw[List.getElem?_map,hx];rfl)
theorem Q9h (b:Option Addr) (m d:Nat) (E:List Int) (w:World) (h:Q0k w b m d E) (h0:E≠[]) (hm:m<=1000000):
 Calls Tryz.prog 137 #[.slice b m d] w fun r w'=>∃g c',r=.returned (.slice (some ⟨g,0,none⟩) m c')/\Row w' w.heap.size 3 1 (some ⟨g,0,none⟩) m c' (E.map zv)/\Below w.heap.size w w':=by
 obtain ⟨i0,hi0,hz0,hz1,hz2⟩:=info_parts Q7z
 have hln:=h.len
 obtain ⟨p,o,rfl,hp,hc⟩:∃p o,b=some ⟨p,o,none⟩/\p<w.heap.size/\∀(j:Nat) x,E[j]?=some x->w.cell? ⟨p,o+j,none⟩=some (.int .i64 x):=by
  rcases h.rd with h1|h1
  ·exact absurd h1 h0
  ·exact h1
 refine (Tryz.Qym i0 (.int .i64 0) 1 8 hi0 hz0 hz1 hz2 rfl (by decide) Qru p o m d (E.map zv) w (by simp[hln]) (by unfold maxLen;omega) (by omega) (fun j u hu=>?_) (Qt9 E)).mono ?_
 ·rw[List.getElem?_map] at hu
  cases hx:E[j]? with
  |none=>rw[hx] at hu;cases hu
  |some x=>
   rw[hx] at hu
   simp only[Option.map_some,Option.some.injEq] at hu
   subst hu
   exact hc j x hx
 ·rintro r w' ⟨v',rfl,⟨hl,hown⟩,hnn,hb⟩
  rcases hown with ⟨e,_⟩|⟨g,cap,cur,rfl,hg0,hg,hnc,hcm,hcs,htk⟩
  ·exact absurd e hnn
  ·exact ⟨g,cap,rfl,⟨hl,.inr ⟨g,cap,cur,rfl,hg0,hg,hnc,hcm,hcs,htk⟩⟩,hb⟩
theorem Qu4 {E:List Int} (h:∀x∈E,0<=x):0<=E.sum:=by
 induction E with
 |nil=>simp
 |cons a t ih=>
  rw[List.sum_cons]
  have h1:=h a (by simp)
  have h2:=ih fun x hx=>h x (by simp[hx])
  omega
theorem Qp8 {E:List Int} (h:∀x∈E,0<=x) {x:Int} (hx:x∈E):x<=E.sum:=by
 induction E with
 |nil=>cases hx
 |cons a t ih=>
  rw[List.sum_cons]
  have h1:=h a (by simp)
  have h2:0<=t.sum:=Qu4 (E:=t) (fun z hz=>h z (List.mem_cons_of_mem _ hz))
  rcases List.mem_cons.1 hx with e|hx
  ·omega
  ·have h3:=ih (fun z hz=>h z (List.mem_cons_of_mem _ hz)) hx
   omega
structure Qil (W2 w:World) (v g:Nat) (v0 v1 v2 v3:Value) (T:TypeId) (m c:Nat) (xs:List Value):Prop where
 box:Q2s w v v0 v1 v2 v3
 row:Row w W2.heap.size T 1 (some ⟨g,0,none⟩) m c xs
 below:Below W2.heap.size W2 w
 lo:W2.heap.size<=v
 ne:v≠g
 hi:v<w.heap.size
theorem Q2s.far {w:World} {b:Nat} {v0 v1 v2 v3:Value} (h:Q2s w b v0 v1 v2 v3) {p:Addr} (hp:p.block≠b) (u:Value):Q2s (w.setCell p u) b v0 v1 v2 v3:=
 ⟨(World.cell?_setCell_other _ _ _ _ (fun e=>hp (by rw[e]))).trans h.c0,(World.cell?_setCell_other _ _ _ _ (fun e=>hp (by rw[e]))).trans h.c1,(World.cell?_setCell_other _ _ _ _ (fun e=>hp (by rw[e]))).trans h.c2,(World.cell?_setCell_other _ _ _ _ (fun e=>hp (by rw[e]))).trans h.c3,(World.frozen?_setCell _ _ _ _).trans h.f0,(World.frozen?_setCell _ _ _ _).trans h.f1,(World.frozen?_setCell _ _ _ _).trans h.f2,(World.frozen?_setCell _ _ _ _).trans h.f3⟩
theorem Q2s.set0 {w:World} {b:Nat} {v0 v1 v2 v3:Value} (h:Q2s w b v0 v1 v2 v3) (u:Value):Q2s (w.setCell ⟨b,0,none⟩ u) b u v1 v2 v3:=
 ⟨World.cell?_setCell_same' _ _ _ (by rw[h.c0];rfl),(World.cell?_setCell_other _ _ _ _ (by simp)).trans h.c1,(World.cell?_setCell_other _ _ _ _ (by simp)).trans h.c2,(World.cell?_setCell_other _ _ _ _ (by simp)).trans h.c3,(World.frozen?_setCell _ _ _ _).trans h.f0,(World.frozen?_setCell _ _ _ _).trans h.f1,(World.frozen?_setCell _ _ _ _).trans h.f2,(World.frozen?_setCell _ _ _ _).trans h.f3⟩
theorem Q2s.set1 {w:World} {b:Nat} {v0 v1 v2 v3:Value} (h:Q2s w b v0 v1 v2 v3) (u:Value):Q2s (w.setCell ⟨b,1,none⟩ u) b v0 u v2 v3:=
 ⟨(World.cell?_setCell_other _ _ _ _ (by simp)).trans h.c0,World.cell?_setCell_same' _ _ _ (by rw[h.c1];rfl),(World.cell?_setCell_other _ _ _ _ (by simp)).trans h.c2,(World.cell?_setCell_other _ _ _ _ (by simp)).trans h.c3,(World.frozen?_setCell _ _ _ _).trans h.f0,(World.frozen?_setCell _ _ _ _).trans h.f1,(World.frozen?_setCell _ _ _ _).trans h.f2,(World.frozen?_setCell _ _ _ _).trans h.f3⟩
theorem Q2s.set2 {w:World} {b:Nat} {v0 v1 v2 v3:Value} (h:Q2s w b v0 v1 v2 v3) (u:Value):Q2s (w.setCell ⟨b,2,none⟩ u) b v0 v1 u v3:=
 ⟨(World.cell?_setCell_other _ _ _ _ (by simp)).trans h.c0,(World.cell?_setCell_other _ _ _ _ (by simp)).trans h.c1,World.cell?_setCell_same' _ _ _ (by rw[h.c2];rfl),(World.cell?_setCell_other _ _ _ _ (by simp)).trans h.c3,(World.frozen?_setCell _ _ _ _).trans h.f0,(World.frozen?_setCell _ _ _ _).trans h.f1,(World.frozen?_setCell _ _ _ _).trans h.f2,(World.frozen?_setCell _ _ _ _).trans h.f3⟩
theorem Q2s.set3 {w:World} {b:Nat} {v0 v1 v2 v3:Value} (h:Q2s w b v0 v1 v2 v3) (u:Value):Q2s (w.setCell ⟨b,3,none⟩ u) b v0 v1 v2 u:=
 ⟨(World.cell?_setCell_other _ _ _ _ (by simp)).trans h.c0,(World.cell?_setCell_other _ _ _ _ (by simp)).trans h.c1,(World.cell?_setCell_other _ _ _ _ (by simp)).trans h.c2,World.cell?_setCell_same' _ _ _ (by rw[h.c3];rfl),(World.frozen?_setCell _ _ _ _).trans h.f0,(World.frozen?_setCell _ _ _ _).trans h.f1,(World.frozen?_setCell _ _ _ _).trans h.f2,(World.frozen?_setCell _ _ _ _).trans h.f3⟩
theorem Q2s.store {w:World} {b:Nat} {v0 v1 v2 v3:Value} (h:Q2s w b v0 v1 v2 v3) (u0 u1 u2 u3:Value):Q2s ((((w.setCell ⟨b,0,none⟩ u0).setCell ⟨b,1,none⟩ u1).setCell ⟨b,2,none⟩ u2).setCell ⟨b,3,none⟩ u3) b u0 u1 u2 u3:=(((h.set0 u0).set1 u1).set2 u2).set3 u3
theorem Qvf {W2 w3:World} {B g m c:Nat} {T:TypeId} {xs:List Value} (hB:W2.heap.size<=B) (h:Row w3 B T 1 (some ⟨g,0,none⟩) m c xs) (hb:Below W2.heap.size W2 w3) (v0 v1 v2 v3:Value) (T2:TypeId):
 Qil W2 (w3.alloc (.cells #[v0,v1,v2,v3] T2)) w3.heap.size g v0 v1 v2 v3 T m c xs:=
 ⟨Q2s.new w3 v0 v1 v2 v3 T2,(h.lower hB).alloc _,hb.alloc hb.size _,hb.size,by have:=h.fresh;omega,by rw[World.size_alloc];omega⟩
theorem Qvg {W2 w3:World} {B g m c:Nat} {T:TypeId} {xs:List Value} {v0 v1 v2 v3:Value} (hB:W2.heap.size<B) (h:Row w3 B T 1 (some ⟨g,0,none⟩) m c xs) (hb:Below W2.heap.size W2 w3) (hm:Q2s w3 W2.heap.size v0 v1 v2 v3) (u0 u1 u2 u3:Value):
 Qil W2 ((((w3.setCell ⟨W2.heap.size,0,none⟩ u0).setCell ⟨W2.heap.size,1,none⟩ u1).setCell ⟨W2.heap.size,2,none⟩ u2).setCell ⟨W2.heap.size,3,none⟩ u3) W2.heap.size g u0 u1 u2 u3 T m c xs:=by
 have hg:=h.fresh
 have far:∀(w:World) (o:Nat) (u:Value),Row w W2.heap.size T 1 (some ⟨g,0,none⟩) m c xs->Row (w.setCell ⟨W2.heap.size,o,none⟩ u) W2.heap.size T 1 (some ⟨g,0,none⟩) m c xs:=fun w o u h=>h.far (fun x hx=>by injection hx with hx;subst hx;show g≠W2.heap.size;omega) u
 exact ⟨hm.store u0 u1 u2 u3,far _ 3 _ (far _ 2 _ (far _ 1 _ (far _ 0 _ (h.lower (Nat.le_of_lt hB))))),(((hb.setCell (Nat.le_refl _) _).setCell (Nat.le_refl _) _).setCell (Nat.le_refl _) _).setCell (Nat.le_refl _) _,Nat.le_refl _,by omega,by simp only[World.size_setCell];omega⟩
theorem Qil.put {W2 w:World} {v g m c:Nat} {T:TypeId} {Z:List Int} {v0 v1 v2 v3:Value} (h:Qil W2 w v g v0 v1 v2 v3 T m c (Z.map zv)) (i:Nat) (u:Int):
 Qil W2 (w.setCell ⟨g,i,none⟩ (.int .i64 u)) v g v0 v1 v2 v3 T m c ((Z.set i u).map zv):=by
 refine ⟨h.box.far (p:=⟨g,i,none⟩) (fun e=>h.ne e.symm) _,?_,h.below.setCell h.row.fresh.1 _,h.lo,h.ne,by rw[World.size_setCell];exact h.hi⟩
 rw[List.map_set]
 exact h.row.set0 i _
theorem Qu5 {Ex Ey Z:List Int} {i k:Nat} {x y:Int} (hZ:Z.length=k) (hik:i<k) (h:∀(j:Nat) (x y:Int),Ex[j]?=some x->Ey[j]?=some y->Z[j]?=some (if j<i then x+y else x)) (hx:Ex[i]?=some x) (hy:Ey[i]?=some y):
 ∀(j:Nat) (x' y':Int),Ex[j]?=some x'->Ey[j]?=some y'->(Z.set i (x+y))[j]?=some (if j<i+1 then x'+y' else x'):=by
 intro j x' y' hx' hy'
 by_cases e:j=i
 ·subst e
  rw[hx] at hx';rw[hy] at hy'
  cases hx';cases hy'
  rw[List.getElem?_set_self (by omega),if_pos (Nat.lt_succ_self _)]
 ·rw[List.getElem?_set_ne (fun h=>e h.symm),h j x' y' hx' hy']
  by_cases hl:j<i
  ·rw[if_pos hl,if_pos (by omega)]
  ·rw[if_neg hl,if_neg (by omega)]
theorem WordsIn.set4 {w:World} {a:Option Addr} {n c b:Nat} {L:List Nat} {b0:Bool} {e0:Int} {a0 a1:Option Addr} {n0 c0 n1 c1:Nat} (h:WordsIn w a n c L) (hM:Q2s w b (.bool b0) (.int .i64 e0) (.slice a0 n0 c0) (.slice a1 n1 c1)) (u0 u1 u2 u3:Value):
 WordsIn ((((w.setCell ⟨b,0,none⟩ u0).setCell ⟨b,1,none⟩ u1).setCell ⟨b,2,none⟩ u2).setCell ⟨b,3,none⟩ u3) a n c L:=
 (((h.set1 hM.c0 (fun _=>by simp[nv]) u0).set1 (hM.set0 u0).c1 (fun _=>by simp[nv]) u1).set1 ((hM.set0 u0).set1 u1).c2 (fun _=>by simp[nv]) u2).set1 (((hM.set0 u0).set1 u1).set2 u2).c3 (fun _=>by simp[nv]) u3
theorem Qu6 {Ex Ey Z:List Int} {k:Nat} (r1:Q0m k Ex) (r2:Q0m k Ey) (hZ:Z.length=k) (h:∀(j:Nat) (x y:Int),Ex[j]?=some x->Ey[j]?=some y->Z[j]?=some (if j<k then x+y else x)):Z=List.zipWith (·+·) Ex Ey:=by
 apply List.ext_getElem?
 intro j
 by_cases hj:j<k
 ·have hx:=List.getElem?_eq_getElem (l:=Ex) (i:=j) (by rw[r1.1];exact hj)
  have hy:=List.getElem?_eq_getElem (l:=Ey) (i:=j) (by rw[r2.1];exact hj)
  rw[h j _ _ hx hy,if_pos hj,List.getElem?_zipWith,hx,hy]
 ·rw[List.getElem?_eq_none (by omega),List.getElem?_eq_none (by rw[List.length_zipWith,r1.1,r2.1];omega)]
theorem Row.far4 {w:World} {B g m c r:Nat} {T:TypeId} {xs:List Value} (h:Row w B T 1 (some ⟨g,0,none⟩) m c xs) (hne:g≠r) (u0 u1 u2 u3:Value):Row ((((w.setCell ⟨r,0,none⟩ u0).setCell ⟨r,1,none⟩ u1).setCell ⟨r,2,none⟩ u2).setCell ⟨r,3,none⟩ u3) B T 1 (some ⟨g,0,none⟩) m c xs:=by
 have far:∀(w:World) (o:Nat) (u:Value),Row w B T 1 (some ⟨g,0,none⟩) m c xs->Row (w.setCell ⟨r,o,none⟩ u) B T 1 (some ⟨g,0,none⟩) m c xs:=fun w o u h=>h.far (fun x hx=>by injection hx with hx;subst hx;exact hne) u
 exact far _ 3 _ (far _ 2 _ (far _ 1 _ (far _ 0 _ h)))
theorem Qp9 {k:Nat} {Ex Ey:List Int} (r1:Q0m k Ex) (r2:Q0m k Ey):∀x∈List.zipWith (·+·) Ex Ey,-9223372036854775808<=x/\x<=9223372036854775807:=by
 intro x hx
 have h0:=Qic Ex Ey r1.2.1 r2.2.1
 have h1:=Qp8 h0 hx
 rw[Qib _ _ (r1.1.trans r2.1.symm)] at h1
 have h2:=h0 x hx
 have:=r1.2.2
 have:=r2.2.2
 omega
theorem Qim (nx:Bool) (ex:Int) (ax:Option Addr) (lx cx:Nat) (ls:List Nat) (bx:Option Addr) (mx dx:Nat) (Ex:List Int) (ny:Bool) (ey:Int) (ay:Option Addr) (ly cy:Nat) (ks:List Nat) (bY:Option Addr) (my dy':Nat) (Ey:List Int) (k:Nat) (w:World)
 (h1:WordsIn w ax lx cx ls) (g1:Q0k w bx mx dx Ex) (h2:WordsIn w ay ly cy ks) (g2:Q0k w bY my dy' Ey) (i1:Q0h nx ex ls) (i2:Q0h ny ey ks) (r1:Q0m k Ex) (r2:Q0m k Ey) (hk:1<=k) (hk2:k<=4) (hT:Q24 w):
 Calls Tryz.prog 170 #[.agg #[.bool nx,.int .i64 ex,.slice ax lx cx,.slice bx mx dx],.agg #[.bool ny,.int .i64 ey,.slice ay ly cy,.slice bY my dy']] w fun r w'=>
  ∃n' e' a' l' c' L er be le ce,r=.returned (.tuple #[.agg #[.bool n',.int .i64 e',.slice a' l' c',.slice be le ce],.int .i64 er])/\Qci (Q1q nx ex ls*Q1q ny ey ks) n' e' L er/\Q2g w w' a' l' c' L/\Q0k w' be le ce (List.zipWith (·+·) Ex Ey)/\(∃g,be=some ⟨g,0,none⟩/\w.heap.size<=g)/\Below w.heap.size w w':=by
 obtain ⟨BX,hBX⟩:∃o:Obj,o=.cells #[.bool nx,.int .i64 ex,.slice ax lx cx,.slice bx mx dx] 44:=⟨_,rfl⟩
 obtain ⟨BY,hBY⟩:∃o:Obj,o=.cells #[.bool ny,.int .i64 ey,.slice ay ly cy,.slice bY my dy'] 44:=⟨_,rfl⟩
 obtain ⟨BR,hBR⟩:∃o:Obj,o=.cells #[.bool false,.int .i64 0,.slice none 0 0,.slice none 0 0] 44:=⟨_,rfl⟩
 have hs1:(w.alloc BX).heap.size=w.heap.size+1:=World.size_alloc _ _
 have hs2:((w.alloc BX).alloc BY).heap.size=w.heap.size+2:=by rw[World.size_alloc,hs1]
 have hs3:(((w.alloc BX).alloc BY).alloc BR).heap.size=w.heap.size+3:=by rw[World.size_alloc,hs2]
 have hb1:Below w.heap.size w (w.alloc BX):=(Below.refl _ _).alloc (Nat.le_refl _) _
 have hb2:Below (w.alloc BX).heap.size (w.alloc BX) ((w.alloc BX).alloc BY):=(Below.refl _ _).alloc (Nat.le_refl _) _
 have hb3:Below ((w.alloc BX).alloc BY).heap.size ((w.alloc BX).alloc BY) (((w.alloc BX).alloc BY).alloc BR):=(Below.refl _ _).alloc (Nat.le_refl _) _
 have hX:Q2s (((w.alloc BX).alloc BY).alloc BR) w.heap.size (.bool nx) (.int .i64 ex) (.slice ax lx cx) (.slice bx mx dx):=by
  have h:=((Q2s.new w (.bool nx) (.int .i64 ex) (.slice ax lx cx) (.slice bx mx dx) 44).step (by rw[<-hBX];exact hb2) (by rw[hs1];omega)).step hb3 (by rw[hs2];omega)
  exact h
 have hY:Q2s (((w.alloc BX).alloc BY).alloc BR) (w.heap.size+1) (.bool ny) (.int .i64 ey) (.slice ay ly cy) (.slice bY my dy'):=by
  have h:=Q2s.new (w.alloc BX) (.bool ny) (.int .i64 ey) (.slice ay ly cy) (.slice bY my dy') 44
  rw[hs1,<-hBY] at h
  exact h.step hb3 (by rw[hs2];omega)
 have hR:Q2s (((w.alloc BX).alloc BY).alloc BR) (w.heap.size+2) (.bool false) (.int .i64 0) (.slice none 0 0) (.slice none 0 0):=by
  have h:=Q2s.new ((w.alloc BX).alloc BY) (.bool false) (.int .i64 0) (.slice none 0 0) (.slice none 0 0) 44
  rw[hs2,<-hBR] at h
  exact h
 have hB:=Below.next0 (Below.next0 hb1 hb2) hb3
 subst hBX;subst hBY;subst hBR
 generalize hW0:((w.alloc (.cells #[.bool nx,.int .i64 ex,.slice ax lx cx,.slice bx mx dx] 44)).alloc (.cells #[.bool ny,.int .i64 ey,.slice ay ly cy,.slice bY my dy'] 44)).alloc (.cells #[.bool false,.int .i64 0,.slice none 0 0,.slice none 0 0] 44)=W0 at hs3 hX hY hR hB
 obtain ⟨x0,x1,x2,x3,_,_,_,_⟩:=id hX
 obtain ⟨y0,y1,y2,y3,_,_,_,_⟩:=id hY
 have hmul:=Qlp nx ex ax lx cx ls ny ey ay ly cy ks W0 (h1.step hB) (h2.step hB) i1 i2 (hT.step hB)
 have HC:=Xh6 hX hY hR hB hmul hs3
 have HG:=Xh2 g1 g2
 clear hs1 hs2 hs3 hb1 hb2 hb3 hX hY hR hB hmul hT h1 h2 i1 i2 g1 g2
 go_enter Tryz.func170,Tryz.ntmps170
 go_upto_region 2 with (refine (Xo4 HC).mono ?_;rintro r w1 ⟨n',e',a',l',c',L,er,rfl,hfo,hW1,hb1⟩;have HA:=Xh3 hfo hW1 hb1;clear hfo hW1 hb1)
 have hal:Below w1.heap.size w1 (w1.alloc (.cells #[.bool n',.int .i64 e',.slice a' l' c'] 41)):=(Below.refl _ _).alloc (Nat.le_refl _) _
 have hN6:=Q04.new w1 (.bool n') (.int .i64 e') (.slice a' l' c') 41
 have hl6:=Q0f w1 (.cells #[.bool n',.int .i64 e',.slice a' l' c'] 41)
 generalize hW2:w1.alloc (.cells #[.bool n',.int .i64 e',.slice a' l' c'] 41)=W2 at hal hN6 hl6
 have hb02:=Below.next0 (Xe2 HA) hal
 have hX2:=(Xo0 HC).step hb02 (by have:=(Xe5 HC);omega)
 have hY2:=(Xo1 HC).step hb02 (by have:=(Xe5 HC);omega)
 have hR2:=(Xo2 HC).step hb02 (by have:=(Xe5 HC);omega)
 have hEx0:Ex≠[]:=fun e=>by have:=r1.1;rw[e] at this;simp at this;omega
 have hmx:mx=k:=by rw[<-(Xo0 HG).len];exact r1.1
 have hcl:=fun W (hW:Below W2.heap.size W2 W)=>Q9h bx mx dx Ex W ((Xo0 HG).step (Below.next0 (Below.next0 (Xo3 HC) hb02) hW)) hEx0 (by omega)
 have HX2:=Xh6 hX2 hY2 hR2 hb02 hN6 hl6
 have HCL:=Lib.hid hcl
 have n0:W2.drew.cell? ⟨w1.heap.size,0,none⟩=some (.bool n'):=hN6.c0
 have n1:W2.drew.cell? ⟨w1.heap.size,1,none⟩=some (.int .i64 e'):=hN6.c1
 have n2:W2.drew.cell? ⟨w1.heap.size,2,none⟩=some (.slice a' l' c'):=hN6.c2
 have p3:W2.drew.cell? ⟨w.heap.size,3,none⟩=some (.slice bx mx dx):=hX2.c3
 have hba:=Below.next0 ((Below.refl W2.heap.size W2).alloc (Nat.le_refl _) (.cells #[.bool false,.int .i64 0,.slice none 0 0,.slice none 0 0] 44)) (Q08 _)
 have hNa:=hN6.step hba hl6
 have hXa:=hX2.step hba (by have:=(Xe5 HC);have:=hb02.size;omega)
 have na0:=hNa.c0
 have na1:=hNa.c1
 have na2:=hNa.c2
 have pa3:=hXa.c3
 clear hba hNa hXa hX2 hY2 hR2 hb02 hal hcl hN6 hl6 x0 x1 x2 x3 y0 y1 y2 y3 hmx hEx0
 go_cut [8] (fun s8 wx=>∃v g c3,s8=.pointer (some ⟨v,0,none⟩)/\Qil W2 wx v g (.bool n') (.int .i64 e') (.slice a' l' c') (.slice (some ⟨g,0,none⟩) mx c3) 3 mx c3 (Ex.map zv))
 case first=>
  go_region_law (
   refine Q2x (by rfl) 137 #[.slice bx mx dx] (by simp[go_sem]) ?_
   refine (HCL.out _ ?_).mono ?_
   (first|exact Q08 W2|exact Below.next0 ((Below.refl W2.heap.size W2).alloc (Nat.le_refl _) _) (Q08 _)|exact (Below.refl W2.heap.size W2).alloc (Nat.le_refl _) _|exact Below.next0 (Q08 W2) ((Below.refl _ _).alloc (Nat.le_refl _) _))
   rintro r w3 ⟨g,c3,rfl,hrow,hb3⟩
   refine ⟨_,rfl,?_⟩
   have hbb:Below W2.heap.size W2 w3:=by
    first
     |exact Below.next0 (Q08 W2) hb3
     |exact Below.next0 ((Below.refl W2.heap.size W2).alloc (Nat.le_refl _) _) hb3
     |exact Below.next0 (Below.next0 ((Below.refl W2.heap.size W2).alloc (Nat.le_refl _) _) (Q08 _)) hb3
     |exact Below.next0 (Below.next0 (Q08 W2) ((Below.refl _ _).alloc (Nat.le_refl _) _)) hb3
   have hN:=(Xo4 HX2).step hbb (Xe5 HX2)
   have m0:w3.cell? ⟨w1.heap.size,0,none⟩=some (.bool n'):=hN.c0
   have m1:w3.cell? ⟨w1.heap.size,1,none⟩=some (.int .i64 e'):=hN.c1
   have m2:w3.cell? ⟨w1.heap.size,2,none⟩=some (.slice a' l' c'):=hN.c2
   (first
     |(have hM:=((Q2s.new W2 (.bool false) (.int .i64 0) (.slice none 0 0) (.slice none 0 0) 44).step (Q08 _) (by rw[World.size_alloc];exact Nat.lt_succ_self _)).step hb3 (by show _<(World.alloc _ _).heap.size;rw[World.size_alloc];exact Nat.lt_succ_self _)
       have o0:=hM.c0
       have o1:=hM.c1
       have o2:=hM.c2
       have o3:=hM.c3
       have u0:=hM.f0
       have u1:=hM.f1
       have u2:=hM.f2
       have u3:=hM.f3
       clear hM)
     |skip)
   have hNw:=hN.step ((Below.refl w3.heap.size w3).alloc (Nat.le_refl _) (.cells #[.bool false,.int .i64 0,.slice none 0 0,.slice none 0 0] 44)) (Nat.lt_of_lt_of_le (Xe5 HX2) hbb.size)
   have mm0:=hNw.c0
   have mm1:=hNw.c1
   have mm2:=hNw.c2
   have HZ:=Xh3 hrow hb3 hbb
   clear hrow hb3 hbb hN hNw)
  all_goals go_wp2_with fail
  all_goals go_meet
  all_goals first
   |(have hh:=Qvf (W2:=W2) (B:=W2.drew.heap.size) (Nat.le_refl W2.heap.size) (Xo0 HZ) (Xe2 HZ) (.bool n') (.int .i64 e') (.slice a' l' c') (.slice (some ⟨g,0,none⟩) mx c3) 44
     exact ⟨w3.heap.size,g,c3,rfl,hh⟩)
   |(have hh:=Qvg (W2:=W2) (B:=(W2.alloc (.cells #[.bool false,.int .i64 0,.slice none 0 0,.slice none 0 0] 44)).drew.heap.size) (by show _<(W2.alloc _).heap.size;rw[World.size_alloc];exact Nat.lt_succ_self _) (Xo0 HZ) (Xe2 HZ) ⟨o0,o1,o2,o3,u0,u1,u2,u3⟩ (.bool n') (.int .i64 e') (.slice a' l' c') (.slice (some ⟨g,0,none⟩) mx c3)
     exact ⟨W2.heap.size,g,c3,rfl,hh⟩)
 case rest=>
  obtain ⟨v,g,c3,rfl,hP⟩:=hcut
  have hYc:=(Xo1 HX2).step hP.below (by have:=(Xe5 HC);have:=(Xo3 HX2).size;omega)
  have y3:=hYc.c3
  have hmy:my=k:=by rw[<-(Xe1 HG).len];exact r2.1
  have hgy:=(Xe1 HG).step (Below.next0 (Below.next0 (Xo3 HC) (Xo3 HX2)) hP.below)
  have HP:=Xh3 hP hgy hmy
  clear hP hYc hgy hmy n0 n1 n2 p3 na0 na1 na2 pa3
  go_wp2_with fail
  go_loopw [27] (fun iv wr=>∃(i:Nat) (Z:List Int),iv=.int .i64 (i:Int)/\i<=k/\Z.length=k/\(∀j x y,Ex[j]?=some x->Ey[j]?=some y->Z[j]?=some (if j<i then x+y else x))/\Qil W2 wr v g (.bool n') (.int .i64 e') (.slice a' l' c') (.slice (some ⟨g,0,none⟩) mx c3) 3 mx c3 (Z.map zv)/\wr.heap.size=wc.heap.size/\Below W2.heap.size W2 wr) (fun iv _=>k-(intOf iv).toNat)
  case atStart=>
   refine ⟨0,Ex,rfl,Nat.zero_le _,r1.1,fun j x y hx _=>by simp[hx],(Xo0 HP),rfl,(Xo0 HP).below⟩
  case round=>
   obtain ⟨i,Z,rfl,hi,hZ,hinv,hQ,hsz,hbw⟩:=hrel
   by_cases hlt:i<my
   ·have hik:i<k:=by have:=(Xe2 HP);omega
    have hlt':(i:Int)<(my:Int):=by omega
    have hmx':(i:Int)<(mx:Int):=by have h:=(Xo0 HG).len;have h2:=r1.1;omega
    obtain ⟨y,hy⟩:∃y,Ey[i]?=some y:=⟨_,List.getElem?_eq_getElem (by have:=r2.1;omega)⟩
    obtain ⟨x,hx⟩:∃x,Ex[i]?=some x:=⟨_,List.getElem?_eq_getElem (by have:=r1.1;omega)⟩
    obtain ⟨ba,oa,hae,hba,hcy⟩:=((Xe1 HG).step (Below.next0 (Below.next0 (Xo3 HC) (Xo3 HX2)) hQ.below)).rd.at_ hy
    subst hae
    have hzx:Z[i]?=some x:=by have h:=hinv i x y hx hy;simpa using h
    have b3:=hQ.box.c3
    have hcx:wr.cell? ⟨g,i,none⟩=some (.int .i64 x):=hQ.row.cell0 (by rw[List.getElem?_map,hzx];rfl)
    have hfz:=hQ.row.frozen0 i
    have hx8:=Qp8 r1.2.1 (List.mem_of_getElem? hx)
    have hy8:=Qp8 r2.2.1 (List.mem_of_getElem? hy)
    have hx0:=r1.2.1 x (List.mem_of_getElem? hx)
    have hy0:=r2.2.1 y (List.mem_of_getElem? hy)
    have hwr:IntKind.i64.wrap (x+y)=x+y:=by rw[IntKind.wrap_i64];have:=r1.2.2;have:=r2.2.2;omega
    have HI:=Xh7 hZ hinv hQ hsz hbw hx hy
    clear hZ hinv hQ hsz hbw hx8 hy8 hx0 hy0 hzx
    go_wp2_with fail
    exact ⟨⟨i+1,Z.set i (x+y),by simp,by omega,by rw[List.length_set];exact (Xo0 HI),Qu5 (Xo0 HI) hik (Xo1 HI) (Xo5 HI) (Xe6 HI),(Xo2 HI).put i (x+y),by rw[World.size_setCell];exact (Xo3 HI),((Xo2 HI).put i (x+y)).below⟩,by simp only[intOf];omega⟩
   ·have hik:i=k:=by have:=(Xe2 HP);omega
    have hlt':¬((i:Int)<(my:Int)):=by omega
    have b0:=hQ.box.c0
    have b1:=hQ.box.c1
    have b2:=hQ.box.c2
    have b3:=hQ.box.c3
    have hR:=(Xo2 HX2).step hQ.below (by have:=(Xe5 HC);have:=(Xo3 HX2).size;omega)
    have q0:=hR.c0
    have q1:=hR.c1
    have q2:=hR.c2
    have q3:=hR.c3
    have t0:=hR.f0
    have t1:=hR.f1
    have t2:=hR.f2
    have t3:=hR.f3
    have HI:=Xh7 hik hZ hinv hQ hsz hbw hR
    clear hik hZ hinv hQ hsz hbw hR
    go_wp2_with fail
    have hR1:Q2s wr (w.heap.size+1+1) (.bool false) (.int .i64 0) (.slice none 0 0) (.slice none 0 0):=(Xe6 HI)
    have hV:=hR1.store (.bool n') (.int .i64 e') (.slice a' l' c') (.slice (some ⟨g,0,none⟩) mx c3)
    have k0:=hV.c0
    have k1:=hV.c1
    have k2:=hV.c2
    have k3:=hV.c3
    have hb12:Below w1.heap.size w1 W2:=by rw[<-hW2];exact (Below.refl _ _).alloc (Nat.le_refl _) _
    have hw:=((Xo1 HA).step (Below.next0 hb12 (Xo3 HI).below)).set4 hR1 (.bool n') (.int .i64 e') (.slice a' l' c') (.slice (some ⟨g,0,none⟩) mx c3)
    have hbw:=((((Below.next0 (Below.next0 (Xo3 HC) (Xo3 HX2)) (Xo3 HI).below).setCell (p:=⟨w.heap.size+1+1,0,none⟩) (by show w.heap.size<=w.heap.size+1+1;omega) (.bool n')).setCell (p:=⟨w.heap.size+1+1,1,none⟩) (by show w.heap.size<=w.heap.size+1+1;omega) (.int .i64 e')).setCell (p:=⟨w.heap.size+1+1,2,none⟩) (by show w.heap.size<=w.heap.size+1+1;omega) (.slice a' l' c')).setCell (p:=⟨w.heap.size+1+1,3,none⟩) (by show w.heap.size<=w.heap.size+1+1;omega) (.slice (some ⟨g,0,none⟩) mx c3)
    refine ⟨rfl,.tuple #[.agg #[.bool n',.int .i64 e',.slice a' l' c',.slice (some ⟨g,0,none⟩) mx c3],.int .i64 er],by simp[results,go_sem,k0,k1,k2,k3],?_⟩
    have hint:Q0k ((((wr.setCell ⟨w.heap.size+1+1,0,none⟩ (.bool n')).setCell ⟨w.heap.size+1+1,1,none⟩ (.int .i64 e')).setCell ⟨w.heap.size+1+1,2,none⟩ (.slice a' l' c')).setCell ⟨w.heap.size+1+1,3,none⟩ (.slice (some ⟨g,0,none⟩) mx c3)) (some ⟨g,0,none⟩) mx c3 (List.zipWith (fun a b=>a+b) Ex Ey):=by
     have hgne:g≠w.heap.size+1+1:=by
      have h1:=(Xe5 HC)
      have h2:=(Xo3 HX2).size
      have h3:=(Xo3 HI).row.fresh.1
      omega
     have hZe:Z=List.zipWith (fun a b=>a+b) Ex Ey:=Qu6 r1 r2 (Xo1 HI) (by have h:=(Xo2 HI);rwa[(Xo0 HI)] at h)
     have hrow:=(Xo3 HI).row.far4 hgne (.bool n') (.int .i64 e') (.slice a' l' c') (.slice (some ⟨g,0,none⟩) mx c3)
     rw[hZe] at hrow
     exact hrow.ints (Qp9 r1 r2)
    have hfr:w.heap.size<=g:=Nat.le_trans (Below.next0 (Xo3 HC) (Xo3 HX2)).size (Xo3 HI).row.fresh.1
    cases n' with
    |false=>exact .inl ⟨e',a',l',c',L,er,_,_,_,rfl,(Xo0 HA),((Xo1 HA).lower (Xo3 HC).size).on hw,hint,⟨g,rfl,hfr⟩,hbw⟩
    |true=>exact .inr ⟨e',a',l',c',L,er,_,_,_,rfl,(Xo0 HA),((Xo1 HA).lower (Xo3 HC).size).on hw,hint,⟨g,rfl,hfr⟩,hbw⟩
end Go.Proofs.YtdilmfakkppgpaaGreatDoor
namespace Go.Proofs.YtdilmfakkppgpaaGreatDoor
open Go.RowKit Go.Maps WordsM Go.ChangeShapes Go.WideShapes
theorem Qpa:laidOutB Tryz.prog=true:=by kernel_rfl
theorem Qta:(182:TypeId)<Tryz.prog.types.size:=of_decide_eq_true (by kernel_rfl)
theorem Qu7:(match Tryz.prog.underlying 182 with|some (.array _ _)|some (.struct _)=>true|_=>false)=true:=by kernel_rfl
theorem Qvh:Go.WideMaps.KeyLaw Tryz.prog 182:=deep_law_laid Qpa (m:=3) (Nat.le_of_ble_eq_true rfl) Qta (by kernel_rfl) Qu7
theorem Qfp:Keyed Tryz.prog 182:=Keyed.of_law Qvh
theorem Qka:Tryz.prog.underlying 182=some (.array 4 3):=by kernel_rfl
theorem Qrv:Tryz.prog.underlying 3=some (.int .i64):=by kernel_rfl
theorem Qpb:Tryz.prog.underlying 179=some (.map 182 3):=by kernel_rfl
theorem Qu8:Tryz.prog.keyType 182=true:=by kernel_rfl
theorem Qkb:Tryz.prog.cellsOf 182=4:=by kernel_rfl
theorem Qrw:Tryz.prog.cellsOf 3=1:=by kernel_rfl
theorem Qu9 (w:World):(zeroValue 3).run Tryz.prog w=.ok (.int .i64 0) w:=by kernel_rfl
theorem Qrx:∀(k n:Nat),k<n->∃m,n=m+1:=fun k n h=>⟨n-1,by omega⟩
theorem Qvi:∃m,Tryz.prog.types.size=m+1:=Qrx _ _ Qta
def Qr6 (a b c d:Int):Value:=.agg #[.int .i64 a,.int .i64 b,.int .i64 c,.int .i64 d]
def Q55 (x:Int):Prop:= -9223372036854775808<=x/\x<=9223372036854775807
theorem Qry {x:Int} (h:Q55 x):(Lit.int .i64 x).wf=true:=by
 unfold Q55 at h
 have h1:IntKind.i64.min= -9223372036854775808:=rfl
 have h2:IntKind.i64.max=9223372036854775807:=rfl
 simp[Lit.wf,h1,h2]
 omega
theorem Q50 {m:Nat} {x:Int} (h:Q55 x):Tryz.prog.keyLits (m+1) 3 [.int .i64 x]=some [.int .i64 x]:=by
 unfold Program.keyLits
 rw[Qrv]
 simp[Qry h]
theorem Qin {a b c d:Int} (ha:Q55 a) (hb:Q55 b) (hc:Q55 c) (hd:Q55 d):∃l,keyOf Tryz.prog 182 (Qr6 a b c d)=some l:=by
 unfold keyOf
 rw[Qka,Qu8]
 have hf:(Qr6 a b c d).formed Tryz.prog 182=true:=by
  simp[Value.formed,Qr6,Qkb]
 simp only[hf,Bool.and_self,if_true]
 obtain ⟨m,hm⟩:=Qvi
 rw[hm]
 have hk:Tryz.prog.keyLits (m+1+1) 182 (Qr6 a b c d).cells.toList=some ([[Lit.int .i64 a],[.int .i64 b],[.int .i64 c],[.int .i64 d]].flatten):=by
  unfold Program.keyLits
  rw[Qka]
  have hcl:(Qr6 a b c d).cells.toList=[.int .i64 a,.int .i64 b,.int .i64 c,.int .i64 d]:=by simp[Qr6,Value.cells]
  rw[hcl]
  simp[Qkb,Qrw,List.range,List.range.loop,Q50 ha,Q50 hb,Q50 hc,Q50 hd]
 rw[hk]
 exact ⟨_,rfl⟩
theorem Qrz {a b c d a' b' c' d':Int} (h:Qr6 a b c d=Qr6 a' b' c' d'):a=a'/\b=b'/\c=c'/\d=d':=by
 unfold Qr6 at h
 injection h with h
 simpa using h
abbrev P4:=Int × Int × Int × Int
def P4.v (q:P4):Value:=Qr6 q.1 q.2.1 q.2.2.1 q.2.2.2
def P4.ok (q:P4):Prop:=Q55 q.1/\Q55 q.2.1/\Q55 q.2.2.1/\Q55 q.2.2.2
theorem P4.key {q:P4} (h:q.ok):∃l,keyOf Tryz.prog 182 q.v=some l:=Qin h.1 h.2.1 h.2.2.1 h.2.2.2
theorem P4.inj {q r:P4} (h:q.v=r.v):q=r:=by
 obtain ⟨a,b,c,d⟩:=q
 obtain ⟨a',b',c',d'⟩:=r
 obtain ⟨h1,h2,h3,h4⟩:=Qrz h
 simp only at h1 h2 h3 h4
 subst h1;subst h2;subst h3;subst h4;rfl
def Qvj (v:Value):Option (DataW Value × List MemPlace):=some (.held v,[])
def Q4g (w:World) (b n:Nat) (g:P4->Option Nat):Prop:=
 ∃D,w.ownsMap Tryz.prog 182 Qvj b n D/\∀q l,q.ok->keyOf Tryz.prog 182 q.v=some l->Maps.has D l=(g q).isSome/\D.atKey l (.held (.int .i64 0))=.held (.int .i64 (((g q).getD 0:Nat):Int))
section
variable {w w':World} {b n:Nat} {g:P4->Option Nat}
theorem Q4g.made (w:World):Q4g (w.alloc (.map #[] 0)) w.heap.size 0 (fun _=>none):=
 ⟨_,World.ownsMap_made _ _ _ _,fun _ _ _ _=>⟨rfl,rfl⟩⟩
theorem Q4g.lt (h:Q4g w b n g):b<w.heap.size:=by obtain ⟨D,h1,_⟩:=h;exact h1.lt
theorem Q4g.keep (h:Q4g w b n g) (hk:w'.heap[b]?=w.heap[b]?):Q4g w' b n g:=by
 obtain ⟨D,⟨es',clock,hb,r⟩,h2⟩:=h
 exact ⟨D,⟨es',clock,hk.trans hb,r⟩,h2⟩
theorem Q4g.look_ok (h:Q4g w b n g) {q:P4} (hq:q.ok):
 (Instr.lookup 179 (.map (some b)) q.v true).run Tryz.prog w=.ok (.tuple #[.int .i64 (((g q).getD 0:Nat):Int),.bool (g q).isSome]) w:=by
 obtain ⟨D,h1,h2⟩:=h
 obtain ⟨l,hl⟩:=q.key hq
 obtain ⟨v,ps,hrun,hv⟩:=World.ownsMap.look_ok h1 Qfp Qpb (Qu9 w) (zd:=.held (.int .i64 0)) (zp:=[]) rfl hl
 obtain ⟨e1,e2⟩:=h2 q l hq hl
 rw[e1] at hrun
 rw[e2] at hv
 unfold Qvj at hv
 injection hv with hv
 injection hv with hv _
 injection hv with hv
 rw[hrun,hv]
theorem Q4g.store (h:Q4g w b n g) {q:P4} (hq:q.ok) (hn:n<1000000) (k:Nat):
 ∃w',(Instr.mapUpdate 179 (.map (some b)) q.v (.int .i64 (k:Int))).run Tryz.prog w=.ok () w'/\Q4g w' b (n+1) (fun r=>if r=q then some k else g r)/\w.grownBy w' (some b):=by
 obtain ⟨D,h1,h2⟩:=h
 obtain ⟨l,hl⟩:=q.key hq
 obtain ⟨w',hrun,h3,h4⟩:=World.ownsMap.store h1 Qfp Qpb (by unfold maxLen;omega) (val:=.int .i64 (k:Int)) (d:=.held (.int .i64 (k:Int))) (ps:=[]) hl rfl
 refine ⟨w',hrun,⟨_,h3,fun r m hr hm=>?_⟩,h4.grown⟩
 show Maps.has _ _=(if r=q then some k else g r).isSome/\_=DataW.held (Value.int .i64 (((if r=q then some k else g r).getD 0:Nat):Int))
 by_cases e:r=q
 ·subst e
  rw[hl] at hm
  injection hm with hm
  subst hm
  rw[if_pos rfl]
  exact ⟨Maps.has_put_same h1.isMap (Qfp.key hl) _,Maps.atKey_put_same h1.isMap (Qfp.key hl) _ _⟩
 ·have hne:m≠l:=fun e2=>by
   subst e2
   exact e (P4.inj (Qfp.inj hm hl))
  rw[if_neg e,Maps.has_put_other hne,Maps.atKey_put_other hne]
  exact h2 r m hr hm
end
end Go.Proofs.YtdilmfakkppgpaaGreatDoor
namespace Go.Proofs.YtdilmfakkppgpaaGreatDoor
open Go.RowKit WordsM
theorem Qio (B:Nat) (w:World):Below B w w.drew:=⟨rfl,rfl,rfl,Nat.le_refl _,fun _ _=>rfl⟩
def p4 (E:List Int):P4:=(E.getD 0 0,E.getD 1 0,E.getD 2 0,E.getD 3 0)
theorem Qpc {E:List Int} (h:E.length<=4):Go.splice [zv 0,zv 0,zv 0,zv 0] 0 (E.map zv)=[zv (p4 E).1,zv (p4 E).2.1,zv (p4 E).2.2.1,zv (p4 E).2.2.2]:=by
 match E,h with
 |[],_=>rfl
 |[_],_=>rfl
 |[_,_],_=>rfl
 |[_,_,_],_=>rfl
 |[_,_,_,_],_=>rfl
 |_::_::_::_::_::_,h=>exact absurd h (by simp)
theorem Qtb {n:Nat} {E F:List Int} (hE:E.length=n) (hF:F.length=n) (hn:n<=4) (h:p4 E=p4 F):E=F:=by
 unfold p4 at h
 simp only[Prod.mk.injEq] at h
 obtain ⟨h0,h1,h2,h3⟩:=h
 apply List.ext_getElem?
 intro j
 by_cases hj:j<n
 ·have e:∀(A:List Int),A.length=n->A[j]?=some (A.getD j 0):=fun A hA=>by
   rw[List.getD_eq_getElem?_getD,List.getElem?_eq_getElem (by omega)];rfl
  rw[e E hE,e F hF]
  congr 1
  match j,hj with
  |0,_=>exact h0
  |1,_=>exact h1
  |2,_=>exact h2
  |3,_=>exact h3
  |j+4,hj=>omega
 ·rw[List.getElem?_eq_none (by omega),List.getElem?_eq_none (by omega)]
theorem Qwh {E:List Int} (h:∀x∈E,Q55 x):(p4 E).ok:=by
 have e:∀j,Q55 (E.getD j 0):=fun j=>by
  rw[List.getD_eq_getElem?_getD]
  cases hj:E[j]? with
  |none=>unfold Q55;simp
  |some x=>exact h x (List.mem_of_getElem? hj)
 exact ⟨e 0,e 1,e 2,e 3⟩
theorem Qlz (nx:Bool) (ex:Int) (ax:Option Addr) (lx cx:Nat) (bx:Option Addr) (mx dx:Nat) (E:List Int) (w:World) (hE:Q0k w bx mx dx E) (h4:E.length<=4) (h0:E≠[]):
 Calls Tryz.prog 136 #[.agg #[.bool nx,.int .i64 ex,.slice ax lx cx,.slice bx mx dx]] w fun r w'=>r=.returned (p4 E).v/\Below w.heap.size w w':=by
 have hln:=hE.len
 have hsp:=Qpc h4
 obtain ⟨⟨a0,a1,a2,a3⟩,hP4⟩:∃P:P4,p4 E=P:=⟨_,rfl⟩
 rw[hP4] at hsp⊢
 obtain ⟨p,o,rfl,hp,hc⟩:∃p o,bx=some ⟨p,o,none⟩/\p<w.heap.size/\∀(j:Nat) x,E[j]?=some x->w.cell? ⟨p,o+j,none⟩=some (.int .i64 x):=by
  rcases hE.rd with h1|h1
  ·exact absurd h1 h0
  ·exact h1
 have hsz:(Tryz.prog.info? 3).map (·.size)=some 1:=by kernel_rfl
 obtain ⟨o1,ho1⟩:∃oo:Obj,oo=.cells #[.bool nx,.int .i64 ex,.slice ax lx cx,.slice (some ⟨p,o,none⟩) mx dx] 44:=⟨_,rfl⟩
 obtain ⟨o2,ho2⟩:∃oo:Obj,oo=.cells #[.int .i64 0,.int .i64 0,.int .i64 0,.int .i64 0] 182:=⟨_,rfl⟩
 have s1:(w.alloc o1).heap.size=w.heap.size+1:=World.size_alloc _ _
 have s2:((w.alloc o1).alloc o2).heap.size=w.heap.size+1+1:=by rw[World.size_alloc,s1]
 have s3:(((w.alloc o1).alloc o2).alloc o2).heap.size=w.heap.size+1+1+1:=by rw[World.size_alloc,s2]
 have b1:Below w.heap.size w (w.alloc o1):=(Below.refl _ _).alloc (Nat.le_refl _) _
 have b2:Below (w.alloc o1).heap.size (w.alloc o1) ((w.alloc o1).alloc o2):=(Below.refl _ _).alloc (Nat.le_refl _) _
 have b3:Below ((w.alloc o1).alloc o2).heap.size ((w.alloc o1).alloc o2) (((w.alloc o1).alloc o2).alloc o2):=(Below.refl _ _).alloc (Nat.le_refl _) _
 have hX0:Q2s (w.alloc o1) w.heap.size (.bool nx) (.int .i64 ex) (.slice ax lx cx) (.slice (some ⟨p,o,none⟩) mx dx):=by rw[ho1];exact Q2s.new _ _ _ _ _ _
 have hX:=(hX0.step b2 (by omega)).step b3 (by omega)
 have hR0:Q2s ((w.alloc o1).alloc o2) (w.alloc o1).heap.size (.int .i64 0) (.int .i64 0) (.int .i64 0) (.int .i64 0):=by rw[ho2];exact Q2s.new _ _ _ _ _ _
 have hR:=hR0.step b3 (by omega)
 have hP:(((w.alloc o1).alloc o2).alloc o2).heap[w.heap.size+1+1]?=some o2:=by
  have h:=heap_alloc_new ((w.alloc o1).alloc o2) o2
  rw[s2] at h;exact h
 rw[s1] at hR
 clear hX0 hR0
 have hB:=Below.next0 (Below.next0 b1 b2) b3
 rw[ho1,ho2] at hX hR hB hP s3
 generalize hW0:((w.alloc (.cells #[.bool nx,.int .i64 ex,.slice ax lx cx,.slice (some ⟨p,o,none⟩) mx dx] 44)).alloc (.cells #[.int .i64 0,.int .i64 0,.int .i64 0,.int .i64 0] 182)).alloc (.cells #[.int .i64 0,.int .i64 0,.int .i64 0,.int .i64 0] 182)=W0 at hX hR hB hP s3
 have x3:=hX.c3
 have x3d:W0.drew.cell? ⟨w.heap.size,3,none⟩=some (.slice (some ⟨p,o,none⟩) mx dx):=x3
 have hmx:mx<=4:=by omega
 have hcs:∀j v,(E.map zv)[j]?=some v->W0.drew.cell? ((⟨p,o,none⟩:Addr).add j)=some v:=fun j v hv=>by
  rw[List.getElem?_map] at hv
  cases hx:E[j]? with
  |none=>rw[hx] at hv;cases hv
  |some x=>
   rw[hx] at hv
   simp only[Option.map_some,Option.some.injEq] at hv
   subst hv
   have hadd:(⟨p,o,none⟩:Addr).add j=⟨p,o+j,none⟩:=by unfold Addr.add;split <;> simp_all
   rw[hadd]
   exact (hB.cell (p:=⟨p,o+j,none⟩) hp).trans (hc j x hx)
 have HC:=Xh8 hX hR hB hP s3 hcs hln hsp
 clear hX hR hB hP s3 s1 s2 b1 b2 b3 ho1 ho2 hcs hc hE hln hsp h0
 go_enter Tryz.func136,Tryz.ntmps136
 go_upto_region 2 with fail
 go_cut [] (fun wx=>wx.heap[w.heap.size+1+1]?=some (.cells #[zv a0,zv a1,zv a2,zv a3] 182 (0,0))/\Below (w.heap.size+1+1) W0 wx)
 case first=>
  go_region_law (
   refine step_copy_splice rfl (.tmp 4) (.tmp 6) 42 42 rfl 3 Tryz.underlying42 hsz (some ⟨w.heap.size+1+1,0,none⟩) (some ⟨p,o,none⟩) 4 4 mx dx rfl rfl (w.heap.size+1+1) 0 [zv 0,zv 0,zv 0,zv 0] 182 (Xo3 HC) (E.map zv) (by rw[List.length_map,(Xo6 HC)];exact (Nat.min_eq_left hmx).symm) (fun _=>⟨rfl,⟨p,o,none⟩,rfl,(Xo5 HC)⟩) (by simp;omega) (Qt9 E) (w.heap.size+1+1) W0 (Qio _ _) (Nat.le_refl _) ?_
   intro w4 hh hb4)
  all_goals go_wp2_with fail
  all_goals go_meet
  all_goals exact ⟨by rw[<-(Xe7 HC)];exact hh.out,hb4⟩
 case rest=>
  obtain ⟨hh,hb4⟩:=hcut
  have hR4:=(Xo1 HC).step hb4 (by omega)
  have HH:=Lib.hid hb4
  have q0:=cell_of_row wc (w.heap.size+1+1) 0 _ _ _ hh
  have q1:=cell_of_row wc (w.heap.size+1+1) 1 _ _ _ hh
  have q2:=cell_of_row wc (w.heap.size+1+1) 2 _ _ _ hh
  have q3:=cell_of_row wc (w.heap.size+1+1) 3 _ _ _ hh
  simp only[List.getElem?_toArray,List.getElem?_cons_zero,List.getElem?_cons_succ,zv] at q0 q1 q2 q3
  have d1:=(World.cell?_setCell_other wc ⟨w.heap.size+1,0,none⟩ ⟨w.heap.size+1,1,none⟩ (.int .i64 a0) (by simp)).trans hR4.c1
  have d2:=((hR4.set0 (.int .i64 a0)).set1 (.int .i64 a1)).c2
  have d3:=(((hR4.set0 (.int .i64 a0)).set1 (.int .i64 a1)).set2 (.int .i64 a2)).c3
  have r0:=hR4.c0
  have r1:=hR4.c1
  have r2:=hR4.c2
  have r3:=hR4.c3
  have t0:=hR4.f0
  have t1:=hR4.f1
  have t2:=hR4.f2
  have t3:=hR4.f3
  have hS:=hR4.store (.int .i64 a0) (.int .i64 a1) (.int .i64 a2) (.int .i64 a3)
  have HS:=Xh2 hS hb4
  clear hR4 hS hb4 hh
  go_wp2_with fail
  have hw:=(Xo0 HS)
  have k0:=hw.c0
  have k1:=hw.c1
  have k2:=hw.c2
  have k3:=hw.c3
  have hbz:=(((((Xo2 HC).trans (show Below w.heap.size W0 wc from ⟨(Xe1 HS).os,(Xe1 HS).tape,(Xe1 HS).output,(Xe1 HS).size,fun k hk=>(Xe1 HS).block k (by omega)⟩)).setCell (p:=⟨w.heap.size+1,0,none⟩) (by show w.heap.size<=w.heap.size+1;omega) (.int .i64 a0)).setCell (p:=⟨w.heap.size+1,1,none⟩) (by show w.heap.size<=w.heap.size+1;omega) (.int .i64 a1)).setCell (p:=⟨w.heap.size+1,2,none⟩) (by show w.heap.size<=w.heap.size+1;omega) (.int .i64 a2)).setCell (p:=⟨w.heap.size+1,3,none⟩) (by show w.heap.size<=w.heap.size+1;omega) (.int .i64 a3)
  refine ⟨rfl,.agg #[.int .i64 a0,.int .i64 a1,.int .i64 a2,.int .i64 a3],by simp[results,go_sem,k0,k1,k2,k3],rfl,hbz⟩
end Go.Proofs.YtdilmfakkppgpaaGreatDoor
