/- Part 30 of the proof of LawParseShows: Ref10A. Condition: as each theorem says; none at the end. -/
import Derived.Test.YtdilmfakkppgpaaGreatDoorPkParseShows29
set_option maxRecDepth 100000
set_option maxHeartbeats 16000000
namespace Go.Proofs.YtdilmfakkppgpaaGreatDoor
open Go.RowKit WordsM
theorem Qny {w wr:World} (h:∀j,∃kk,wr.drewN j=w.drewN kk) (i j:Nat):∃kk,(wr.drewN i).drewN j=w.drewN kk:=by
 obtain ⟨kk,h1⟩:=h i
 exact ⟨kk+j,by rw[h1,World.drewN_drewN]⟩
theorem Q6h (a:Option Addr) (n c:Nat) (E:List Int) (b:Option Addr) (d:Nat) (F:List Int) (w:World) (h1:Q0i w a n c E) (h2:Q0i w b n d F):
 Calls Tryz.prog 117 #[.slice a n c,.slice b n d] w fun r w'=>r=.returned (.int .i64 (Q25 E F))/\∃k,w'=w.drewN k:=by
 have hl1:=h1.len
 have hl2:=h2.len
 have hcm:=Nat.le_trans h1.cap h1.most
 have HC:=Xh2 h1.rd h2.rd
 clear h1 h2
 obtain ⟨V,hV⟩:∃V,Q25 E F=V:=⟨_,rfl⟩
 rw[hV]
 have HV:=Lib.hid hV
 clear hV
 go_enter Tryz.func117,Tryz.ntmps117
 go_wp2_with fail
 go_loopw [5] (fun iv wr=>∃i:Nat,iv=.int .i64 (i:Int)/\i<=n/\Q25 (E.drop i) (F.drop i)=V/\∃k,wr=w.drewN k) (fun iv _=>n-(intOf iv).toNat)
 case atStart=>exact ⟨0,rfl,Nat.zero_le _,HV.out,0,rfl⟩
 case round=>
  obtain ⟨i,rfl,hi,hcmp,hwr⟩:=hrel
  have hcell:∀p,wr.cell? p=w.cell? p:=fun p=>by obtain ⟨kk,rfl⟩:=hwr;rfl
  have hdr:∀j,∃kk,wr.drewN j=w.drewN kk:=fun j=>by obtain ⟨kk,rfl⟩:=hwr;exact ⟨_,World.drewN_drewN ..⟩
  have HW:=Xh2 hwr hdr
  clear hwr hdr
  by_cases hlt:i<n
  ·have hlt':(i:Int)<(n:Int):=by omega
   obtain ⟨x,hx⟩:∃x,E[i]?=some x:=⟨_,List.getElem?_eq_getElem (by omega)⟩
   obtain ⟨y,hy⟩:∃y,F[i]?=some y:=⟨_,List.getElem?_eq_getElem (by omega)⟩
   obtain ⟨ba,oa,rfl,hba,hcx0⟩:=(Xo0 HC).at_ hx
   obtain ⟨bb,ob,rfl,hbb,hcy0⟩:=(Xe1 HC).at_ hy
   have hcx:=(hcell ⟨ba,oa+i,none⟩).trans hcx0
   have hcy:=(hcell ⟨bb,ob+i,none⟩).trans hcy0
   have hcd:=Qhz hx hy
   rw[hcmp] at hcd
   have HH:=Lib.hid hcd
   clear hcd hx hy hcmp hcx0 hcy0 hcell
   by_cases h1:y<x
   ·have hV1:V=1:=by rw[HH.out,if_neg (by omega),if_pos h1]
    subst hV1
    go_wp2_with fail
    go_quiet (fail)
    go_wp2_with fail
    go_ret
    exact ⟨rfl,(Xe1 HW) _⟩
   ·by_cases h2:x<y
    ·have hV1:V= -1:=by rw[HH.out,if_pos h2]
     subst hV1
     go_wp2_with fail
     go_quiet (fail)
     go_wp2_with fail
     go_quiet (fail)
     go_wp2_with fail
     go_ret
     exact ⟨rfl,Qny (Xe1 HW) _ _⟩
    ·go_wp2_with fail
     go_quiet (fail)
     go_wp2_with fail
     go_quiet (fail)
     go_wp2_with fail
     refine ⟨⟨i+1,congrArg (Value.int .i64) (by omega),hlt,?_,(Xe1 HW) _⟩,by simp only[intOf];omega⟩
     rw[HH.out,if_neg (by omega),if_neg (by omega)]
  ·have hlt':¬(i:Int)<(n:Int):=by omega
   have hV1:V=0:=by rw[<-hcmp,List.drop_of_length_le (by omega),List.drop_of_length_le (by omega)];rfl
   subst hV1
   clear hcmp hcell
   go_wp2_with fail
   go_ret
   exact ⟨rfl,(Xo0 HW)⟩
theorem Qar (n:Bool) (e:Int) (a:Option Addr) (l c:Nat) (L:List Nat) (b:Option Addr) (m d:Nat) (E:List Int) (k:Nat) (w:World) (h:WordsIn w a l c L) (hE:Q0i w b m d E) (hk:k<=4) (he: -9223372036854775808<=e) (he2:e<=9223372036854775807):
 Calls Tryz.prog 92 #[.agg #[.bool n,.int .i64 e,.slice a l c,.slice b m d],.int .i64 (k:Int)] w fun r w'=>r=.returned (.bool (decide (Q0v k E/\Q0g n e L)))/\Below w.heap.size w w':=by
 obtain ⟨rs,hrs⟩:∃rs,decide (Q0v k E/\Q0g n e L)=rs:=⟨_,rfl⟩
 rw[hrs]
 have HRS:=Lib.hid hrs
 clear hrs
 have hb1:Below w.heap.size w (w.alloc (.cells #[.bool n,.int .i64 e,.slice a l c,.slice b m d] 44)):=(Below.refl _ _).alloc (Nat.le_refl _) _
 have hX:=Q2i.new w (.bool n) (.int .i64 e) (.slice a l c) (.slice b m d) 44
 have hlt:=Q0h w (.cells #[.bool n,.int .i64 e,.slice a l c,.slice b m d] 44)
 generalize hW:w.alloc (.cells #[.bool n,.int .i64 e,.slice a l c,.slice b m d] 44)=W at hb1 hX hlt
 have hx0:=hX.c0
 have hx1:=hX.c1
 have hx2:=hX.c2
 have hx3:=hX.c3
 have hln:=hE.len
 subst hln
 have hrt:=Q5p n e a l c L W (h.step hb1) he he2 (by have:=h.cap;have:=h.most;omega)
 have hrd:=hE.rd.below hb1
 have hcm:=Nat.le_trans hE.cap hE.most
 have HC:=Xh4 hrt hrd hb1 hE.rng
 clear hb1 hX hlt hrt hrd h hE
 go_enter Tryz.func92,Tryz.ntmps92
 go_wp2_with fail
 go_loopw [5,6] (fun sv_ iv wr=>∃(i:Nat) (s:Int),sv_=.int .i64 s/\iv=.int .i64 (i:Int)/\i<=E.length/\i<=4/\(E.take i).sum=s/\0<=s/\s<=8*i/\(∀x∈E.take i,0<=x)/\W=wr) (fun _ iv _=>4-(intOf iv).toNat)
 case atStart=>exact ⟨0,0,rfl,rfl,Nat.zero_le _,by decide,by simp,by decide,by decide,by simp,rfl⟩
 case round=>
  obtain ⟨i,s,rfl,rfl,hi,hi4,hs,hs0,hs8,hpos,rfl⟩:=hrel
  by_cases hlt:i<E.length/\i<4
  ·have hlt':(i:Int)<(E.length:Int):=by omega
   have hlt4:(i:Int)<4:=by omega
   obtain ⟨x,hx⟩:∃x,E[i]?=some x:=⟨_,List.getElem?_eq_getElem hlt.1⟩
   obtain ⟨ba,oa,rfl,hba,hcx⟩:=(Xo1 HC).at_ hx
   have hxr:=(Xe3 HC) x (List.mem_of_getElem? hx)
   have hsn:=Q9a hx
   have HS:=Xh4 hs hsn hpos hx
   clear hs hsn hpos hx
   by_cases hx0':x<0
   ·go_wp2_with fail
    go_ret
    have hno:¬(Q0v k E/\Q0g n e L):=fun h=>by
     have:=h.1.2.1 x (List.mem_of_getElem? (Xe3 HS))
     omega
    have hf:rs=false:=by rw[<-HRS.out];exact decide_eq_false hno
    exact ⟨by rw[hf];rfl,(Xo2 HC)⟩
   ·by_cases hx8:8<x
    ·go_wp2_with fail
     go_ret
     have hno:¬(Q0v k E/\Q0g n e L):=fun h=>by
      have:=(Q2e h.1 x (List.mem_of_getElem? (Xe3 HS))).2
      omega
     have hf:rs=false:=by rw[<-HRS.out];exact decide_eq_false hno
     exact ⟨by rw[hf];rfl,(Xo2 HC)⟩
    ·go_wp2_with fail
     refine ⟨⟨i+1,s+x,rfl,congrArg (Value.int .i64) (by omega),by omega,by omega,by rw[(Xo1 HS),(Xo0 HS)],by omega,by omega,fun y hy=>?_,trivial⟩,by simp only[intOf];omega⟩
     obtain ⟨j,hj,hjy⟩:=Qa2 hy
     by_cases hji:j=i
     ·subst hji
      have h5:=(Xe3 HS)
      rw[hjy] at h5
      injection h5 with h5
      omega
     ·exact (Xo2 HS) y (List.mem_iff_getElem?.2 ⟨j,by rw[List.getElem?_take,if_pos (by omega)];exact hjy⟩)
  ·by_cases hk2:E.length=k
   ·have hie:i=E.length:=by omega
    rw[hie,List.take_length] at hs hpos
    have hl1:¬(i:Int)<(E.length:Int):=by omega
    have hkk:((E.length:Int)==(k:Int))=true:=by rw[beq_iff_eq];omega
    have HS:=Xh3 hs hpos hk2
    clear hs hpos hk2 hie
    by_cases h8:s<=8
    ·have hrr:rs=decide (Q0g n e L):=by
      rw[<-HRS.out]
      exact decide_eq_decide.2 ⟨fun h=>h.2,fun h=>⟨⟨(Xe2 HS),(Xo1 HS),by rw[(Xo0 HS)];exact h8⟩,h⟩⟩
     have HR:=Lib.hid hrr
     clear hrr
     go_wp2_with (go_at_call 118;refine (Xo0 HC).mono ?_;rintro r w1 ⟨rfl,hb1⟩;have H1:=Lib.hid hb1;clear hb1)
     go_ret
     exact ⟨by rw[HR.out];rfl,Below.next0 (Xo2 HC) H1.out⟩
    ·have hno:¬(Q0v k E/\Q0g n e L):=fun h=>by
      have:=h.1.2.2
      have:=(Xo0 HS)
      omega
     have hf:rs=false:=by rw[<-HRS.out];exact decide_eq_false hno
     have HR:=Lib.hid hf
     clear hf hno
     go_wp2_with fail
     go_ret
     exact ⟨by rw[HR.out];rfl,(Xo2 HC)⟩
   ·have hkk:((E.length:Int)==(k:Int))=false:=by rw[beq_eq_false_iff_ne];omega
    have hno:¬(Q0v k E/\Q0g n e L):=fun h=>hk2 h.1.1
    have hf:rs=false:=by rw[<-HRS.out];exact decide_eq_false hno
    have HR:=Lib.hid hf
    clear hf hno hs hpos
    by_cases hl1:i<E.length
    ·have hl1':(i:Int)<(E.length:Int):=by omega
     have hl4:¬(i:Int)<4:=by omega
     go_wp2_with fail
     go_ret
     exact ⟨by rw[HR.out];rfl,(Xo2 HC)⟩
    ·have hl1':¬(i:Int)<(E.length:Int):=by omega
     go_wp2_with fail
     go_ret
     exact ⟨by rw[HR.out];rfl,(Xo2 HC)⟩
end Go.Proofs.YtdilmfakkppgpaaGreatDoor
