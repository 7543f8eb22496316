/- Part 36 of the proof of LawParseShows: ParseShowsW. Condition: as each theorem says; none at the end. -/
import Derived.Test.YtdilmfakkppgpaaGreatDoorPkParseShows35
set_option maxRecDepth 100000
set_option maxHeartbeats 16000000
namespace Go.Proofs.YtdilmfakkppgpaaGreatDoor
open Go.RowKit WordsM DecM
instance (k:Nat) (ms:List Q04):Decidable (Q10 k ms):=by unfold Q10;infer_instance
instance (F:List (List Q04)):Decidable (Q1y F):=by unfold Q1y;infer_instance
def Qks (F:List (List Q04)):List UInt8:=if Q1y F then Q19 0 (Q0y F) else []
theorem Qfe {a:Option Addr} {n c:Nat} {F:List (List Q04)} {w:World} (h:Q2r w a n c F) (hT:Q27 w) (hP:Qgs w):
 Calls Tryz.prog 12 #[.slice a n c] w fun r w'=>r=.returned (sv (Qks F))/\Below w.heap.size w w':=(Q7k a n c F w h hT hP).mono (by
 rintro r w' ⟨h1,h2,h3⟩
 refine ⟨?_,h3⟩
 unfold Qks
 by_cases hR:Q1y F
 ·rw[if_pos hR];exact h1 hR
 ·rw[if_neg hR];exact h2 hR)
theorem Q8t {a:Option Addr} {n c:Nat} {F:List (List Q04)} {w:World} (h:Q2r w a n c F):
 Calls Tryz.prog 13 #[.slice a n c] w fun r w'=>r=.returned (sv (Qks F))/\Below w.heap.size w w':=(Qh4 a n c F w h).mono (by
 rintro r w' ⟨h1,h2,h3⟩
 refine ⟨?_,h3⟩
 unfold Qks
 by_cases hR:Q1y F
 ·rw[if_pos hR];exact h1 hR
 ·rw[if_neg hR];exact h2 hR)
theorem Qax (a0:Option Addr) (n0 c0:Nat) (F:List (List Q04)) (a:Option Addr) (n c:Nat) (ls:List Nat) (w:World) (hF0:Q2r w a0 n0 c0 F) (hln:ls.length=n) (hn:n<=9223372036854775807) (hrd:RdU w w.heap.size a ls) (hx:∀x∈ls,x<18446744073709551616) (hl:Qpv w):
 Calls Tryz.prog 3 #[.slice a0 n0 c0,.slice a n c] w fun e w'=>e=.returned (.bool true)/\Below w.heap.size w w':=by
 have hk:=Qnn w hl
 have HL:=Lib.hid (fun W (hb:Below w.heap.size w W)=>hl.below hb)
 have HRD:=Xh2 hrd hx
 have HK:=Lib.hid hk
 have hfn:=hF0.1
 have HF:=Lib.hid hF0
 clear hk hl hrd hx hF0
 go_enter Tryz.func3,Tryz.ntmps3
 by_cases h6:6<n0
 ·have h6':(6:Int)<(n0:Int):=by omega
  go_wp2_with (go_at_call 8;refine HK.out.mono ?_;rintro e w1 ⟨rfl,hb1⟩;have H1:=Lib.hid hb1;clear hb1)
  go_ret
  exact ⟨rfl,H1.out⟩
 have h6':¬(6:Int)<(n0:Int):=by omega
 go_wp2_with (go_at_call 8;refine HK.out.mono ?_;rintro e w1 ⟨rfl,hb1⟩;have H1:=Lib.hid hb1;clear hb1)
 go_loopw [5] (fun s5 wr=>∃i:Nat,s5=.int .i64 (i:Int)/\i<=n0/\w1=wr) (fun iv _=>n0-(intOf iv).toNat)
 case atStart=>exact ⟨0,rfl,Nat.zero_le _,rfl⟩
 case round=>
  obtain ⟨i,rfl,hi,rfl⟩:=hrel
  by_cases hlt:i<n0
  ·have hlt':(i:Int)<(n0:Int):=by omega
   obtain ⟨ms,hms⟩:∃ms,F[i]?=some ms:=⟨_,List.getElem?_eq_getElem (by omega)⟩
   obtain ⟨_,_,_,h0|⟨g,o,rfl,hg,hFi⟩⟩:=HF.out.step H1.out
   ·rw[h0] at hms;simp at hms
   obtain ⟨p,l,d,hcell,hM⟩:=hFi i ms hms
   clear hM hms hFi
   by_cases h30:(30:Int)<(l:Int)
   ·go_wp2_with fail
    go_ret
    exact ⟨rfl,H1.out⟩
   ·go_wp2_with fail
    exact ⟨⟨i+1,congrArg (Value.int .i64) (by omega),hlt,trivial⟩,by simp only[intOf];omega⟩
  ·have hlt':¬(i:Int)<(n0:Int):=by omega
   clear hlt hi
   go_upto_region 12 with (first
    |(go_at_call 10
      refine (Qcp w1.heap.size 1 nd 6 8 w3 (Xo0 H3) (by decide) (Xo2 H3) (Xe3 H3) (by decide) (by decide)).mono ?_
      rintro e w4 ⟨⟨a4,c4,F4,rfl,hF4,hr4,hl4⟩,ht4⟩
      have hbw4:Below w.heap.size w w4:=Below.turn (Xo1 H3) ht4 (Xo1 H3).size (fun k e=>by have:=H1.out.size;omega)
      have H4:=Xh2 hF4 hbw4
      clear hF4 hr4 hl4 ht4 hbw4)
    |(go_at_call 11
      refine (Qs3 w1.heap.size 0 w2 (Xo0 H2) (by decide)).mono ?_
      rintro e w3 ⟨⟨nd,hn1,hn4,rfl⟩,hd3,ht3⟩
      have hbw3:Below w.heap.size w w3:=Below.turn (Xe1 H2) ht3 (Xe1 H2).size (fun k e=>by have:=H1.out.size;omega)
      have H3:=Xh4 hd3 hbw3 hn1 hn4
      clear hd3 ht3 hbw3 hn1 hn4)
    |(go_at_call 9
      refine (Qka a n c ls w1 hln hn ((RdI.below (K:=.u64) (Xo0 HRD) H1.out).more H1.out.size) (Xe1 HRD)).mono ?_
      rintro e w2 ⟨rfl,hd2,hb2⟩
      have H2:=Xh2 hd2 (Below.next0 H1.out hb2)
      clear hd2 hb2))
   obtain ⟨T0,hT0⟩:∃T,Qks F=T:=⟨_,rfl⟩
   obtain ⟨T4,hT4⟩:∃T,Qks F4=T:=⟨_,rfl⟩
   have p0:=fun W (hb:Below w.heap.size w W)=>Qfe (HF.out.step hb) (HL.out W hb).tz (HL.out W hb).pow
   have q0:=fun W (hb:Below w.heap.size w W)=>Q8t (HF.out.step hb)
   have p4:=fun W (hb:Below w4.heap.size w4 W)=>Qfe ((Xo0 H4).step hb) (HL.out W (Below.next0 (Xe1 H4) hb)).tz (HL.out W (Below.next0 (Xe1 H4) hb)).pow
   have q4:=fun W (hb:Below w4.heap.size w4 W)=>Q8t ((Xo0 H4).step hb)
   rw[hT0] at p0 q0
   rw[hT4] at p4 q4
   have HP:=Xh4 p0 q0 p4 q4
   clear p0 q0 p4 q4 hT0 hT4
   go_wp2_with (first
    |(go_at_call_of 13 (Value.slice a4 nd c4);refine ((Xe3 HP) w7 H7.out).mono ?_;rintro r w8 ⟨rfl,hb8⟩;have H8:=Lib.hid (Below.next0 H7.out hb8);clear hb8)
    |(go_at_call_of 12 (Value.slice a4 nd c4);refine ((Xo2 HP) w6 H6.out).mono ?_;rintro r w7 ⟨rfl,hb7⟩;have H7:=Lib.hid (Below.next0 H6.out hb7);clear hb7)
    |(go_at_call_of 13 (Value.slice a0 n0 c0);refine ((Xo1 HP) w5 (Below.next0 (Xe1 H4) H5.out)).mono ?_;rintro r w6 ⟨rfl,hb6⟩;have H6:=Lib.hid (Below.next0 H5.out hb6);clear hb6)
    |(go_at_call_of 12 (Value.slice a0 n0 c0);refine ((Xo0 HP) w4 (Xe1 H4)).mono ?_;rintro r w5 ⟨rfl,hb5⟩;have H5:=Lib.hid hb5;clear hb5))
   go_ret
   exact ⟨rfl,Below.next0 (Xe1 H4) H8.out⟩
end Go.Proofs.YtdilmfakkppgpaaGreatDoor
