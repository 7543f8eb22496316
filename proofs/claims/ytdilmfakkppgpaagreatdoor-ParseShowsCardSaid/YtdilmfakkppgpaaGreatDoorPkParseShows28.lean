/- Part 28 of the proof of LawParseShows: RefSh. Condition: as each theorem says; none at the end. -/
import Derived.Test.YtdilmfakkppgpaaGreatDoorPkParseShows27
set_option maxRecDepth 100000
set_option maxHeartbeats 16000000
namespace Go.Proofs.YtdilmfakkppgpaaGreatDoor
open Go.RowKit WordsM DecM
theorem Qq2 (wr:World) (v:Int) (d:UInt8) (hv:v=(d.toNat:Int)):(convert 33 9 (.slice (some ⟨wr.heap.size,0,none⟩) 1 1)).run Tryz.prog (wr.alloc (.cells #[.int .u8 v] 5))=.ok (.string ⟨#[d]⟩) (wr.alloc (.cells #[.int .u8 v] 5)):=by
 refine Q8e _ (wr.heap.size+1) _ 1 1 [d] ?_ rfl
 refine .inr ⟨wr.heap.size,0,rfl,by omega,fun j x hx=>?_⟩
 cases j with
 |zero=>
  have hx:some d=some x:=hx
  injection hx with hx
  subst hx
  rw[cell_of_row _ _ _ _ _ _ (heap_alloc_new _ _),hv]
  rfl
 |succ j=>cases hx
theorem Q5z (n:Nat) (hn:n<10) (w:World):
 Calls Tryz.prog 36 #[.int .i64 (n:Int)] w fun r w'=>r=.returned (sv (dec n))/\Below w.heap.size w w':=by
 have hm:(n:Int)%10=(n:Int):=by omega
 have hw1:IntKind.i64.wrap (48+(n:Int))=48+(n:Int):=by rw[IntKind.wrap_i64];omega
 have hw2:IntKind.u8.wrap (48+(n:Int))=48+(n:Int):=by rw[IntKind.wrap_u8];omega
 obtain ⟨q,hq⟩:∃q,UInt8.ofNat (48+n)=q:=⟨_,rfl⟩
 have hd:(48:Int)+(n:Int)=(q.toNat:Int):=by rw[<-hq,Q3v n hn];omega
 have hcv:=Qq2 w _ _ hd
 have hb:Below w.heap.size w (w.alloc (.cells #[.int .u8 (48+(n:Int))] 5)):=(Below.refl _ _).alloc (Nat.le_refl _) _
 have H:=Xh3 hb hn hq
 clear hb hd hn hq
 go_enter Tryz.func36,Tryz.ntmps36
 go_wp2_with fail
 go_ret
 exact ⟨by rw[Q1n (Xo1 H),(Xe2 H)];rfl,(Xo0 H)⟩
theorem Q8a:∀(l:List (List UInt8)) (t:List UInt8),l≠[]->Q1x (l++[t])=Q1x l++42::t
 |[],_,h=>absurd rfl h
 |[x],t,_=>by simp[Q1x]
 |x::y::r,t,_=>by
  have:=Q8a (y::r) t (by simp)
  simp only[List.cons_append,Q1x] at this⊢
  rw[this]
  simp
theorem Qnv:∀(l:List (List UInt8)),(∀t∈l,t≠[])->(Q1x l=[]↔l=[])
 |[],_=>by simp[Q1x]
 |[x],h=>by simp[Q1x,h x (by simp)]
 |x::y::r,h=>by simp[Q1x,h x (by simp)]
theorem Qil:∀(E:List Int) (i:Nat),∀t∈Q0z i E,t≠[]
 |[],_,t,h=>by simp[Q0z] at h
 |k::r,i,t,h=>by
  rw[Q0z] at h
  rcases List.mem_append.1 h with h|h
  ·unfold Q8l at h
   split at h
   ·simp at h;subst h;simp
   ·split at h
    ·simp at h;subst h;simp
    ·simp at h
  ·exact Qil r (i+1) t h
theorem Qbv:∀(E:List Int) (i:Nat),(∀x∈E,0<=x)->(Q0z i E=[]↔E.sum=0)
 |[],_,_=>by simp[Q0z]
 |k::r,i,h=>by
  have h0:=h k (by simp)
  have ih:=Qbv r (i+1) (fun x hx=>h x (by simp[hx]))
  have hs:0<=r.sum:=Qmj fun x hx=>h x (by simp[hx])
  rw[Q0z,List.append_eq_nil_iff,ih,List.sum_cons]
  unfold Q8l
  split
  ·simp;omega
  ·split
   ·simp;omega
   ·simp;omega
theorem Qrx {e:Int} {L:List Nat} (h:Q0g false e L):Q1s false e L≠[]:=by
 unfold Q1s
 rw[if_pos h,Q28]
 intro e0
 have h1:=congrArg List.length e0
 simp only[List.length_append,List.length_nil] at h1
 have h2:=Q2p (val (2^64) L)
 omega
theorem Q5k {a b:ByteArray} (h:a.data.toList=b.data.toList):Value.string a=Value.string b:=congrArg Value.string (ByteArray.ext (Array.toList_inj.1 h))
def Qtl (pre:List (List UInt8)) (E:List Int) (w:World) (s3 s7:Value) (wr:World):Prop:=∃i:Nat,s3=sv (Q1x (pre++Q0z 0 (E.take i)))/\s7=.int .i64 (i:Int)/\i<=E.length/\Below w.heap.size w wr
theorem Qaq (k:Nat) (m:Q04) (a:Option Addr) (l c:Nat) (b:Option Addr) (n d:Nat) (w:World) (hw:WordsIn w a l c m.ws) (he:Q0i w b n d m.es) (hok:OkM k m) (hk4:k<=4):
 Calls Tryz.prog 37 #[.agg #[.bool m.neg,.int .i64 m.exp,.slice a l c,.slice b n d]] w fun r w'=>r=.returned (sv (Q1f m.term))/\Below w.heap.size w w':=by
 have hX:=Q2i.new w (.bool m.neg) (.int .i64 m.exp) (.slice a l c) (.slice b n d) 44
 have hbx:Below w.heap.size w (w.alloc (.cells #[.bool m.neg,.int .i64 m.exp,.slice a l c,.slice b n d] 44)):=(Below.refl _ _).alloc (Nat.le_refl _) _
 have hlx:=Q0h w (.cells #[.bool m.neg,.int .i64 m.exp,.slice a l c,.slice b n d] 44)
 have hlen:=he.len
 have hes:m.es.length<=4:=by have:=hok.1.1.1;omega
 have hsm:=Q2e hok.1.1
 have hcap:=he.cap
 have hmost:=he.most
 have e0:=hX.c0
 have e1:=hX.c1
 have e2:=hX.c2
 have e3:=hX.c3
 have H:=Xh7 hw he hok hX hbx hlx hsm
 clear hw he hok hX hbx hlx hsm
 go_enter Tryz.func37,Tryz.ntmps37
 go_wp2_with fail
 generalize hW1:w.alloc (.cells #[.bool m.neg,.int .i64 m.exp,.slice a l c,.slice b n d] 44)=W1 at e0 e1 e2 e3 H⊢
 clear hW1
 go_loopw [4,5] (fun s4 s5 wr=>∃(i:Nat) (S:Int),s4=.int .i64 S/\s5=.int .i64 (i:Int)/\i<=n/\(m.es.take i).sum=S/\0<=S/\S<=8*i/\W1=wr) (fun _ iv _=>n-(intOf iv).toNat)
 case atStart=>exact ⟨0,0,rfl,rfl,Nat.zero_le _,by simp,by decide,by decide,rfl⟩
 case round=>
  obtain ⟨i,S,rfl,rfl,hi,hS,hS0,hS8,rfl⟩:=hrel
  by_cases hlt:i<m.es.length
  ·have hlt':(i:Int)<(n:Int):=by omega
   obtain ⟨x,hx⟩:∃x,m.es[i]?=some x:=⟨_,List.getElem?_eq_getElem hlt⟩
   obtain ⟨b0,o0,hae,hb0,hcx⟩:=((Xo1 H).step (Xo4 H)).rd.at_ hx
   subst hae
   obtain ⟨hx0,hx8⟩:=(Xe6 H) x (List.mem_of_getElem? hx)
   have hsn:=Q9a hx
   have HS:=Xh2 hS hsn
   clear hS hsn hx
   go_wp2_with fail
   exact ⟨⟨i+1,S+x,rfl,congrArg (Value.int .i64) (by omega),by omega,by rw[(Xe1 HS),(Xo0 HS)],by omega,by omega,trivial⟩,by simp only[intOf];omega⟩
  ·have hlt':¬((i:Int)<(n:Int)):=by omega
   have hie:i=m.es.length:=by omega
   rw[hie,List.take_length] at hS
   have hwW:=(Xo0 H).step (Xo4 H)
   have hex: -65536<=m.exp/\m.exp<=65536:=by rcases Q1k (Xo2 H).1.2 hwW.low with ⟨_,_,h0⟩|⟨_,_,_,_,h1,h2⟩ <;> omega
   have habs:=Qkj m.neg m.exp a l c m.ws W1 hwW (Xo2 H).1.2
   obtain ⟨g1,g2,g3,g4⟩:=Qam (Xo2 H) hwW.low
   have hpz:=Qbv m.es 0 (Xo2 H).1.1.2.1
   have HS:=Xh7 hS habs g1 g2 g3 hpz hwW
   have hg4:=g4
   clear hS habs g1 g2 g3 g4 hpz hwW hie hS8 hS0
   go_upto_region 7 with (go_at_call 72;refine (Xo1 HS).mono ?_;rintro r w4 ⟨rfl,hb4⟩;have H4:=Lib.hid hb4;clear hb4)
   have hN:=Q06.new w4 (.bool false) (.int .i64 m.exp) (.slice a l c) 41
   have hal:Below w4.heap.size w4 (w4.alloc (.cells #[.bool false,.int .i64 m.exp,.slice a l c] 41)):=(Below.refl _ _).alloc (Nat.le_refl _) _
   have hlx:=Q0h w4 (.cells #[.bool false,.int .i64 m.exp,.slice a l c] 41)
   refine Qt7 (Φ:=fun U=>Q06 U w4.heap.size (.bool false) (.int .i64 m.exp) (.slice a l c)/\Below w4.heap.size w4 U/\w4.heap.size<U.heap.size) (P:=fun U=>Code.wp _ _ _ _ U) _ ⟨hN,hal,hlx⟩ ?_
   clear hN hal hlx
   intro V hV
   have n0:=hV.1.c0
   have n1:=hV.1.c1
   have n2:=hV.1.c2
   have hbV:=Below.next0 H4.out hV.2.1
   have HC:=Xh3 hV ((Xe6 HS).step hbV) hbV
   have m3:=(hbV.cell (p:=⟨w.heap.size,3,none⟩) (Xo5 H)).trans e3
   clear hV hbV e0 e1 e2 e3
   obtain ⟨pre,hpre⟩:∃pre,(if Q0z 0 m.es=[]∨Qjf m.term.1≠1 then [Q1s false m.exp m.ws] else [])=pre:=⟨_,rfl⟩
   have hpart:Q2v m.term=pre++Q0z 0 m.es:=by
    unfold Q2v
    rw[<-hpre,(Xo3 HS),show m.term.2=m.es from rfl]
    split <;> rfl
   have hpne:∀t∈pre,t≠[]:=by
    rw[<-hpre]
    intro t ht
    split at ht
    ·rw[List.mem_singleton] at ht
     subst ht
     exact Qrx (Xo4 HS)
    ·cases ht
   have hsh:∀i,(Q1x (pre++Q0z 0 (m.es.take i))).length<=8406:=fun i=>by
    have hp1:=Q5f (m.es.take i) 0 (by rw[List.length_take];omega) (fun x hx=>((Xe6 H) x (List.mem_of_mem_take hx)).2)
    have hl1:pre.length<=1:=by rw[<-hpre];split <;> simp
    have hl2:(pre++Q0z 0 (m.es.take i)).length<=6:=by rw[List.length_append];have h2:=hp1.2;rw[List.length_take] at h2;omega
    have h3:=Q7i (N:=1400) (pre++Q0z 0 (m.es.take i)) (fun t ht=>by
     rcases List.mem_append.1 ht with h|h
     ·rw[<-hpre] at h
      split at h
      ·rw[List.mem_singleton] at h;rw[h];exact hg4
      ·cases h
     ·have:=hp1.1 t h;omega)
    have:=Nat.mul_le_mul_right 1401 hl2
    omega
   have HSH:=Lib.hid hsh
   clear hsh hg4
   have htx:=fun U (hU:Below V.heap.size V U)=>Qfz false m.exp a l c m.ws U ((Xo1 HC).step hU) (by omega) (by omega)
   have HP:=Xh3 hpart hpne htx
   clear hpart hpne htx
   by_cases hm0:S=0
   case' pos=>
    have hp0:Q0z 0 m.es=[]:=(Xo5 HS).2 (by rw[(Xo0 HS)];exact hm0)
    rw[if_pos (.inl hp0)] at hpre
    have HQ:=Lib.hid hpre
    clear hpre hp0
    go_upto_region 9 with (go_at_call 74;refine ((Xe2 HP) _ (Below.refl _ _)).mono ?_;rintro r w9 ⟨rfl,hb9⟩;have H9:=Lib.hid hb9;clear hb9)
   case' neg=>
    have hm0':(S==0)=false:=beq_eq_false_iff_ne.2 hm0
    have hp0:¬Q0z 0 m.es=[]:=fun e=>hm0 (by rw[<-(Xo0 HS)];exact (Xo5 HS).1 e)
    have hw1:WordsIn (V.alloc (.cells #[.int .u64 1] 74)) (some ⟨V.heap.size,0,none⟩) 1 1 [1]:=Q72 V 1 (by decide) 74
    have halV:Below V.heap.size V (V.alloc (.cells #[.int .u64 1] 74)):=(Below.refl _ _).alloc (Nat.le_refl _) _
    have hlow1:Low (2^64) [1]:=fun x hx=>by rw[List.mem_singleton] at hx;subst hx;decide
    have hsm:=Qfx false m.exp a l c m.ws false 0 (some ⟨V.heap.size,0,none⟩) 1 1 [1] (V.alloc (.cells #[.int .u64 1] 74)) ((Xo1 HC).step halV) hw1 (by have:=(Xo1 HC).cap;have:=(Xo1 HC).most;omega)
    rw[Qii (Xo4 HS) (Xo1 HC).low (by decide) hlow1 (by decide+kernel),<-(Xo2 HS)] at hsm
    have HW:=Xh2 hsm halV
    clear hsm halV hw1 hlow1
    by_cases h1:Qjf m.term.1=1
    case' pos=>
     rw[if_neg (by rintro (h|h);exact hp0 h;exact h h1)] at hpre
     have hsm:=(Xo0 HW)
     rw[decide_eq_true h1] at hsm
     have HQ:=Xh2 hpre hsm
     clear hpre hsm hp0 h1
     go_upto_region 9 with (go_at_call 73;refine (Xe1 HQ).mono ?_;rintro r w9 ⟨rfl,hb9⟩;have H9:=Lib.hid (Below.next0 (Xe1 HW) hb9);clear hb9)
    case' neg=>
     rw[if_pos (.inr h1)] at hpre
     have hsm:=(Xo0 HW)
     rw[decide_eq_false h1] at hsm
     have HQ:=Xh2 hpre hsm
     clear hpre hsm hp0 h1
     go_upto_region 9 with (first
      |(go_at_call 74;refine ((Xe2 HP) _ H8.out).mono ?_;rintro r w9 ⟨rfl,hb9⟩;have H9:=Lib.hid (Below.next0 H8.out hb9);clear hb9)
      |(go_at_call 73;refine (Xe1 HQ).mono ?_;rintro r w8 ⟨rfl,hb8⟩;have n0:=((Below.next0 (Xe1 HW) hb8).cell (p:=⟨w4.heap.size,0,none⟩) (Xo0 HC).2.2).trans n0;have n1:=((Below.next0 (Xe1 HW) hb8).cell (p:=⟨w4.heap.size,1,none⟩) (Xo0 HC).2.2).trans n1;have n2:=((Below.next0 (Xe1 HW) hb8).cell (p:=⟨w4.heap.size,2,none⟩) (Xo0 HC).2.2).trans n2;have H8:=Lib.hid (Below.next0 (Xe1 HW) hb8);clear hb8))
   all_goals clear n0 n1 n2 hm0
   all_goals go_wp2_with fail
   all_goals go_loopw [3,7] (fun s3 s7 wr=>Qtl pre m.es V s3 s7 wr) (fun _ iv _=>n-(intOf iv).toNat)
   all_goals (try (case atStart=>first|exact ⟨0,by rw[<-HQ.out];rfl,rfl,Nat.zero_le _,H9.out⟩|exact ⟨0,by rw[<-(Xo0 HQ)];rfl,rfl,Nat.zero_le _,H9.out⟩))
   all_goals (
    obtain ⟨i,hs3,rfl,hi,hbr⟩:=hrel
    obtain ⟨S0,hS0⟩:∃S0,Q1x (pre++Q0z 0 (m.es.take i))=S0:=⟨_,rfl⟩
    rw[hS0] at hs3
    subst hs3
    have m3:=(hbr.cell (p:=⟨w.heap.size,3,none⟩) (Nat.lt_of_lt_of_le (Xo5 H) (Xe2 HC).size)).trans m3
    by_cases hlt:i<m.es.length
    case pos=>
     have hlt':(i:Int)<(n:Int):=by omega
     obtain ⟨x,hx⟩:∃x,m.es[i]?=some x:=⟨_,List.getElem?_eq_getElem hlt⟩
     obtain ⟨b0,o0,hae,hb0,hcx⟩:=((((Xo1 H).step (Xo4 H)).step (Xe2 HC)).step hbr).rd.at_ hx
     subst hae
     obtain ⟨hx0,hx8⟩:=(Xe6 H) x (List.mem_of_getElem? hx)
     have hsn:=Qbq hx
     have hwr:wrap64 ((i:Int)+1)=(i:Int)+1:=by unfold wrap64;omega
     have hi10:i+1<10:=Nat.lt_of_le_of_lt (Nat.le_trans hlt hes) (by decide)
     have hit:=Q5z (i+1) hi10 wr
     obtain ⟨q,hq⟩:∃q,dec (i+1)=[q]:=⟨_,Q1n hi10⟩
     rw[show ((i+1:Nat):Int)=(i:Int)+1 by omega,hq] at hit
     by_cases hz:x=0
     ·subst hz
      have HR:=Xh3 hsn hbr hS0
      clear hsn hbr hS0 hit hx
      go_wp2_with fail
      exact ⟨⟨i+1,by rw[(Xo0 HR),show Q8l i 0=[] from rfl,List.append_nil,(Xe2 HR)],congrArg (Value.int .i64) (by omega),hlt,(Xo1 HR)⟩,by simp only[intOf];omega⟩
     ·have hz':(x==0)=false:=beq_eq_false_iff_ne.2 hz
      have hlne:∀t∈pre++Q0z 0 (m.es.take i),t≠[]:=fun t ht=>by
       rcases List.mem_append.1 ht with h|h
       ·exact (Xo1 HP) t h
       ·exact Qil _ 0 t h
      obtain ⟨K,hK⟩:∃K:Nat,x=(K:Int):=⟨x.toNat,by omega⟩
      subst hK
      have hK10:K<10:=by omega
      have hit2:=fun U=>Q5z K hK10 U
      obtain ⟨q2,hq2⟩:∃q2,dec K=[q2]:=⟨_,Q1n hK10⟩
      rw[hq2] at hit2
      have hSl:S0.length<=8406:=by rw[<-hS0];exact HSH.out i
      have HR:=Xh8 hsn hbr hS0 hit hit2 hlne hq hq2
      clear hsn hbr hS0 hit hit2 hlne hx hq hq2
      by_cases h0:S0=[]
      ·subst h0
       have hl0:pre++Q0z 0 (m.es.take i)=[]:=(Qnv _ (Xo5 HR)).1 (Xo2 HR)
       have HL:=Lib.hid hl0
       clear hl0
       by_cases h1:(1:Int)<(K:Int)
       ·have hpw:Q8l i (K:Int)=[120::([q]++94::[q2])]:=by rw[Q8l,if_neg (by omega),if_pos h1,Int.toNat_natCast,(Xo6 HR),(Xe7 HR)]
        have hj:Q1x (pre++Q0z 0 (m.es.take (i+1)))=120::([q]++94::[q2]):=by rw[(Xo0 HR),<-List.append_assoc,HL.out,hpw];rfl
        have HJ:=Lib.hid hj
        clear hpw hj
        go_wp2_with (first
        |(go_at_call 36;refine ((Xo4 HR) w10).mono ?_;rintro r w11 ⟨rfl,hb11⟩;have H11:=Lib.hid (Below.next0 H10.out hb11);clear hb11)
        |(go_at_call 36;refine (Xo3 HR).mono ?_;rintro r w10 ⟨rfl,hb10⟩;have m3:=(hb10.cell (p:=⟨w.heap.size,3,none⟩) (block_lt_of_cell m3)).trans m3;have hcx:=(hb10.cell (p:=⟨b0,o0+i,none⟩) (block_lt_of_cell hcx)).trans hcx;have H10:=Lib.hid hb10;clear hb10))
        exact ⟨⟨i+1,by rw[HJ.out];exact Q5k (by simp[ByteArray.data_append]),congrArg (Value.int .i64) (by omega),hlt,Below.next0 (Xo1 HR) H11.out⟩,by simp only[intOf];omega⟩
       ·have HK:=Lib.hid (show K=1 by omega)
        have hpw:Q8l i (K:Int)=[120::[q]]:=by rw[Q8l,if_pos (by have:=HK.out;omega),(Xo6 HR)]
        have hj:Q1x (pre++Q0z 0 (m.es.take (i+1)))=120::[q]:=by rw[(Xo0 HR),<-List.append_assoc,HL.out,hpw];rfl
        have HJ:=Lib.hid hj
        clear hpw hj
        go_wp2_with (first
        |(go_at_call 36;refine ((Xo4 HR) w10).mono ?_;rintro r w11 ⟨rfl,hb11⟩;have H11:=Lib.hid (Below.next0 H10.out hb11);clear hb11)
        |(go_at_call 36;refine (Xo3 HR).mono ?_;rintro r w10 ⟨rfl,hb10⟩;have m3:=(hb10.cell (p:=⟨w.heap.size,3,none⟩) (block_lt_of_cell m3)).trans m3;have hcx:=(hb10.cell (p:=⟨b0,o0+i,none⟩) (block_lt_of_cell hcx)).trans hcx;have H10:=Lib.hid hb10;clear hb10))
        exact ⟨⟨i+1,by rw[HJ.out];exact Q5k (by simp[ByteArray.data_append]),congrArg (Value.int .i64) (by omega),hlt,Below.next0 (Xo1 HR) H10.out⟩,by simp only[intOf];omega⟩
      ·have hie:S0.isEmpty=false:=List.isEmpty_eq_false_iff.2 h0
       have hl0:pre++Q0z 0 (m.es.take i)≠[]:=fun e=>h0 (by rw[<-(Xo2 HR),e];rfl)
       have HL:=Lib.hid hl0
       clear hl0 h0
       by_cases h1:(1:Int)<(K:Int)
       ·have hpw:Q8l i (K:Int)=[120::([q]++94::[q2])]:=by rw[Q8l,if_neg (by omega),if_pos h1,Int.toNat_natCast,(Xo6 HR),(Xe7 HR)]
        have hj:Q1x (pre++Q0z 0 (m.es.take (i+1)))=S0++42::120::([q]++94::[q2]):=by rw[(Xo0 HR),<-List.append_assoc,hpw,Q8a _ _ HL.out,(Xo2 HR)]
        have HJ:=Lib.hid hj
        clear hpw hj
        go_wp2_with (first
        |(go_at_call 36;refine ((Xo4 HR) w10).mono ?_;rintro r w11 ⟨rfl,hb11⟩;have H11:=Lib.hid (Below.next0 H10.out hb11);clear hb11)
        |(go_at_call 36;refine (Xo3 HR).mono ?_;rintro r w10 ⟨rfl,hb10⟩;have m3:=(hb10.cell (p:=⟨w.heap.size,3,none⟩) (block_lt_of_cell m3)).trans m3;have hcx:=(hb10.cell (p:=⟨b0,o0+i,none⟩) (block_lt_of_cell hcx)).trans hcx;have H10:=Lib.hid hb10;clear hb10))
        exact ⟨⟨i+1,by rw[HJ.out];exact Q5k (by simp[ByteArray.data_append]),congrArg (Value.int .i64) (by omega),hlt,Below.next0 (Xo1 HR) H11.out⟩,by simp only[intOf];omega⟩
       ·have HK:=Lib.hid (show K=1 by omega)
        have hpw:Q8l i (K:Int)=[120::[q]]:=by rw[Q8l,if_pos (by have:=HK.out;omega),(Xo6 HR)]
        have hj:Q1x (pre++Q0z 0 (m.es.take (i+1)))=S0++42::120::[q]:=by rw[(Xo0 HR),<-List.append_assoc,hpw,Q8a _ _ HL.out,(Xo2 HR)]
        have HJ:=Lib.hid hj
        clear hpw hj
        go_wp2_with (first
        |(go_at_call 36;refine ((Xo4 HR) w10).mono ?_;rintro r w11 ⟨rfl,hb11⟩;have H11:=Lib.hid (Below.next0 H10.out hb11);clear hb11)
        |(go_at_call 36;refine (Xo3 HR).mono ?_;rintro r w10 ⟨rfl,hb10⟩;have m3:=(hb10.cell (p:=⟨w.heap.size,3,none⟩) (block_lt_of_cell m3)).trans m3;have hcx:=(hb10.cell (p:=⟨b0,o0+i,none⟩) (block_lt_of_cell hcx)).trans hcx;have H10:=Lib.hid hb10;clear hb10))
        exact ⟨⟨i+1,by rw[HJ.out];exact Q5k (by simp[ByteArray.data_append]),congrArg (Value.int .i64) (by omega),hlt,Below.next0 (Xo1 HR) H10.out⟩,by simp only[intOf];omega⟩
    have hlt':¬((i:Int)<(n:Int)):=by omega
    have hie:i=m.es.length:=by omega
    rw[hie,List.take_length] at hS0
    have HS0:=Xh2 hS0 hbr
    clear hS0 hbr hie
    go_wp2_with fail
    go_ret
    refine ⟨?_,Below.next0 (Xo4 H) (Below.next0 (Xe2 HC) (Xe1 HS0))⟩
    rw[Q1f,(Xo0 HP),(Xo0 HS0)]
    rfl)
end Go.Proofs.YtdilmfakkppgpaaGreatDoor
