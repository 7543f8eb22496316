/- Part 32 of the proof of LawParseShows: RefShow, FlatT, RefT0, GathA. Condition: as each theorem says; none at the end. -/
import Derived.Test.YtdilmfakkppgpaaGreatDoorPkParseShows28
import Derived.Test.YtdilmfakkppgpaaGreatDoorPkParseShows31
set_option maxRecDepth 100000
set_option maxHeartbeats 16000000
namespace Go.Proofs.YtdilmfakkppgpaaGreatDoor
open Go.RowKit WordsM DecM
def Qq5 (w1:World) (F:List (List Q04)) (s3 s4:Value) (wr:World):Prop:=∃i:Nat,s3=sv (Q19 0 ((Q0y F).take i))/\s4=.int .i64 (i:Int)/\i<=F.length/\Below w1.heap.size w1 wr
def Qim (w1:World) (L:List UInt8) (ms:List Q04) (s3 s5:Value) (wr:World):Prop:=∃k:Nat,s3=sv (L++Q0l true ((ms.map Q04.term).take k))/\s5=.int .i64 (k:Int)/\k<=ms.length/\Below w1.heap.size w1 wr
theorem Qo0 {F:List (List Q04)} (h:Qnm F) (h4:F.length<=4) (i:Nat):(Q19 0 ((Q0y F).take i)).length<=672800:=by
 have h1:=Q8r (F:=F.take i) (fun x hx=>h x (List.mem_of_mem_take hx)) 0 (by rw[List.length_take];omega)
 have h2:(F.take i).length<=4:=by rw[List.length_take];omega
 have h3:=Nat.mul_le_mul_right 168200 h2
 unfold Q0y at h1⊢
 rw[<-List.map_take]
 omega
theorem Qh4 (a:Option Addr) (n c:Nat) (F:List (List Q04)) (w:World) (h:Q2r w a n c F):
 Calls Tryz.prog 13 #[.slice a n c] w fun r w'=>(Q1y F->r=.returned (sv (Q19 0 (Q0y F))))/\(¬Q1y F->r=.returned (sv []))/\Below w.heap.size w w':=by
 have hfr:=Q8b a n c F w h
 by_cases hR:Q1y F
 case neg=>
  have H:=Xh2 hfr hR
  clear hfr h hR
  go_enter Tryz.func13,Tryz.ntmps13
  go_wp2_with (go_at_call 35;refine (Xo0 H).mono ?_;rintro r w1 ⟨⟨bb,rfl,hiff⟩,hb1⟩;obtain rfl:bb=false:=by { cases bb with|false=>rfl|true=>exact absurd (hiff.1 rfl) (Xe1 H) };have H1:=Lib.hid hb1;clear hiff hb1)
  go_ret
  exact ⟨fun h=>absurd h (Xe1 H),fun _=>rfl,H1.out⟩
 case pos=>
 have hsh:=Qij h hR
 have hln:=h.1
 have hn4:n<=4:=by have:=hR.2.1;omega
 have H:=Xh4 hfr hR h hsh
 clear hfr h hsh
 go_enter Tryz.func13,Tryz.ntmps13
 go_wp2_with (go_at_call 35;refine (Xo0 H).mono ?_;rintro r w1 ⟨⟨bb,rfl,hiff⟩,hb1⟩;obtain rfl:bb=true:=hiff.2 (Xo1 H);have H1:=Lib.hid hb1;clear hiff hb1)
 clear hR
 go_loopw [3,4] (fun s3 s4 wr=>Qq5 w1 F s3 s4 wr) (fun _ iv _=>n-(intOf iv).toNat)
 case atStart=>exact ⟨0,rfl,rfl,Nat.zero_le _,Below.refl _ _⟩
 case round=>
  obtain ⟨i,hs3,rfl,hi,hbr⟩:=hrel
  have hpre:=Qo0 (Xe3 H) (by omega) i
  obtain ⟨L0,hL0⟩:∃L0,Q19 0 ((Q0y F).take i)=L0:=⟨_,rfl⟩
  rw[hL0] at hs3 hpre
  subst hs3
  by_cases hlt:i<F.length
  ·have hlt':(i:Int)<(n:Int):=by omega
   obtain ⟨ms,hms⟩:∃ms,F[i]?=some ms:=⟨_,List.getElem?_eq_getElem hlt⟩
   have hF:=((Xo2 H).step H1.out).step hbr
   have hmem:=List.mem_of_getElem? hms
   have hrv:=(Xo1 H).2.2 ms hmem
   have hshm:=(Xe3 H) ms hmem
   have hnext:=Q7j (Qbs hms)
   obtain ⟨_,_,_,h0|⟨g,o,rfl,hg,hFi⟩⟩:=hF
   ·rw[h0] at hlt;exact absurd hlt (Nat.not_lt_zero _)
   obtain ⟨p,l,d,hcell,hM⟩:=hFi i ms hms
   have hll:=hM.1
   have hlm:l<=9223372036854775807:=Nat.le_trans hM.2.1 hM.2.2.1
   have hi10:i+1<10:=by omega
   obtain ⟨q,hq⟩:∃q,dec (i+1)=[q]:=⟨_,Q1n hi10⟩
   have hit:=Q5z (i+1) hi10 wr
   rw[show ((i+1:Nat):Int)=(i:Int)+1 by omega,hq] at hit
   have hhd:Q32 i=[120,q,39,32,61,32]:=by rw[Q32,hq];rfl
   have hwr1:wrap64 ((i:Int)+1)=(i:Int)+1:=by unfold wrap64;omega
   have hpt:=Q5h hshm
   have hlx:Q4o i (ms.map Q04.term)=Q32 i++(Q4n (ms.map Q04.term)++[10]):=rfl
   rw[hhd] at hlx
   have hfs:Q19 0 ((Q0y F).take (i+1))=L0++Q4o i (ms.map Q04.term):=by
    rw[hnext,Q5g,hL0,show 0+((Q0y F).take i).length=i by rw[List.length_take];unfold Q0y;rw[List.length_map];omega]
   rw[hlx] at hfs
   have HR:=Xh8 hfs hrv hshm hM hit hbr hg hpt
   clear hfs hrv hshm hM hit hbr hg hpt hnext hmem hFi hL0 hlx hhd hq hms
   by_cases hms0:ms=[]
   ·subst hms0
    obtain rfl:l=0:=hll.symm
    go_wp2_with (go_at_call 36;refine (Xo4 HR).mono ?_;rintro r w2 ⟨rfl,hb2⟩;have hcell:=(hb2.cell (p:=⟨g,o+i,none⟩) (Xo6 HR)).trans hcell;have H2:=Lib.hid hb2;clear hb2)
    have hg2:g<w2.heap.size:=Nat.lt_of_lt_of_le (Xo6 HR) H2.out.size
    have HC:=Xh2 hcell hg2
    clear hcell hg2
    rename World=>w2
    go_loopw [3,5] (fun s3 s5 wx=>Qim w2 (L0++[120,q,39,32,61,32,48]) [] s3 s5 wx) (fun _ _ _=>0)
    case atStart=>exact ⟨0,Q5k (by simp[ByteArray.data_append,Q0l]),rfl,Nat.zero_le _,Below.refl _ _⟩
    case round=>
     rename World=>wk
     obtain ⟨k,hs3,rfl,hk,hbk⟩:=hrel
     obtain rfl:k=0:=by simpa using hk
     obtain ⟨S1,hS1⟩:∃S1,(L0++[120,q,39,32,61,32,48])=S1:=⟨_,rfl⟩
     have hSl:S1.length<=840998:=by
      rw[<-hS1,List.length_append]
      simp only[List.length_cons,List.length_nil]
      omega
     rw[show (L0++[120,q,39,32,61,32,48])++Q0l true ((([]:List Q04).map Q04.term).take 0)=S1 by rw[<-hS1];simp[Q0l]] at hs3
     subst hs3
     have hcell:=(hbk.cell (p:=⟨g,o+i,none⟩) (Xe1 HC)).trans (Xo0 HC)
     have HK:=Xh2 hS1 hbk
     clear hS1 hbk
     go_wp2_with fail
     refine ⟨⟨i+1,?_,congrArg (Value.int .i64) (by omega),hlt,Below.next0 (Xo5 HR) (Below.next0 H2.out (Xe1 HK))⟩,by simp only[intOf];omega⟩
     rw[(Xo0 HR)]
     refine Q5k ?_
     have h1:=(Xo0 HK)
     simp only[ByteArray.data_append,Array.toList_append,<-h1]
     simp[Q4n]
   ·have hl0:((l:Int)==0)=false:=by
     rw[beq_eq_false_iff_ne]
     intro e
     exact hms0 (List.eq_nil_of_length_eq_zero (by omega))
    have HN0:=Lib.hid hms0
    clear hms0
    go_wp2_with (go_at_call 36;refine (Xo4 HR).mono ?_;rintro r w2 ⟨rfl,hb2⟩;have hcell:=(hb2.cell (p:=⟨g,o+i,none⟩) (Xo6 HR)).trans hcell;have H2:=Lib.hid hb2;clear hb2)
    have hg2:g<w2.heap.size:=Nat.lt_of_lt_of_le (Xo6 HR) H2.out.size
    have HC:=Xh2 hcell hg2
    obtain ⟨b2,o2,rfl,hb2l,hat⟩:∃b o,p=some ⟨b,o,none⟩/\b<wr.heap.size/\∀j m,ms[j]?=some m->Q3g wr b (o+j*4) m:=by
     rcases (Xo3 HR).2.2.2 with h0|h0
     ·exact absurd h0 HN0.out
     ·exact h0
    have HM:=Xh2 hb2l hat
    clear hcell hb2l hat hg2
    rename World=>w2
    go_loopw [3,5] (fun s3 s5 wx=>Qim w2 (L0++[120,q,39,32,61,32]) ms s3 s5 wx) (fun _ iv _=>l-(intOf iv).toNat)
    case atStart=>exact ⟨0,Q5k (by simp[ByteArray.data_append,Q0l]),rfl,Nat.zero_le _,Below.refl _ _⟩
    case round=>
     rename World=>wk
     obtain ⟨k,hs3,rfl,hk,hbk⟩:=hrel
     obtain ⟨S1,hS1⟩:∃S1,(L0++[120,q,39,32,61,32])++Q0l true ((ms.map Q04.term).take k)=S1:=⟨_,rfl⟩
     have hSl:S1.length<=840998:=by
      rw[<-hS1,List.length_append,List.length_append]
      have:=(Xe7 HR) k
      simp only[List.length_cons,List.length_nil]
      omega
     rw[hS1] at hs3
     subst hs3
     have hcell:=(hbk.cell (p:=⟨g,o+i,none⟩) (Xe1 HC)).trans (Xo0 HC)
     by_cases hkl:k<ms.length
     ·have hkl':(k:Int)<(l:Int):=by omega
      obtain ⟨m,hm⟩:∃m,ms[k]?=some m:=⟨_,List.getElem?_eq_getElem hkl⟩
      have hmm:=List.mem_of_getElem? hm
      have hbb:=Below.next0 H2.out hbk
      obtain ⟨aw,lw,cw,ae,le,ce,m0,m1,m2,m3,hw,he,hx1,hx2⟩:=((Xe1 HM) k m hm).step hbb (Xo0 HM)
      have hok:=(Xo1 HR).2.2.2.1 m hmm
      have hts:=Qaq F.length m aw lw cw ae le ce wk hw he hok (by omega)
      have hnb:=Qet hok hw.low
      have hTl:=(Xo2 HR).2 m hmm
      obtain ⟨TT,hTT⟩:∃TT,Q1f m.term=TT:=⟨_,rfl⟩
      have hnx:(L0++[120,q,39,32,61,32])++Q0l true ((ms.map Q04.term).take (k+1))=S1++(Q2d (true && ((ms.map Q04.term).take k).isEmpty) m.term++TT):=by
       rw[Q7j (l:=ms.map Q04.term) (i:=k) (x:=m.term) (by rw[List.getElem?_map,hm];rfl),Q6v,<-List.append_assoc,hS1,hTT]
      rw[hTT] at hts hTl
      obtain ⟨ng,hng⟩:∃ng,m.neg=ng:=⟨_,rfl⟩
      rw[hng] at hts m0 hnb
      have HK:=Xh5 hts hnx hTT hbk hnb
      clear hts hnx hTT hbk hnb hng hw he hx1 hx2 hok hbb hmm hm
      by_cases hk0:0<k
      ·have hk0':(0:Int)<(k:Int):=by omega
       have hk1:((k:Int)==0)=false:=by rw[beq_eq_false_iff_ne];omega
       have hem:((ms.map Q04.term).take k).isEmpty=false:=by
        rw[List.isEmpty_eq_false_iff]
        intro h
        have:=congrArg List.length h
        rw[List.length_take,List.length_map] at this
        have e0:([]:List Q0f).length=0:=rfl
        omega
       cases ng with
       |true=>
        have hsg:Q2d (true && ((ms.map Q04.term).take k).isEmpty) m.term=[32,45,32]:=by rw[hem,Q2d,(Xe4 HK)];rfl
        have HG:=Lib.hid hsg
        clear hsg hem
        go_wp2_with (go_at_call 37;refine (Xo0 HK).mono ?_;rintro r w5 ⟨rfl,hb5⟩;have H5:=Lib.hid hb5;clear hb5)
        exact ⟨⟨k+1,by rw[(Xo1 HK),HG.out];exact Q5k (by simp[ByteArray.data_append]),congrArg (Value.int .i64) (by omega),hkl,Below.next0 (Xo3 HK) H5.out⟩,by simp only[intOf];omega⟩
       |false=>
        have hsg:Q2d (true && ((ms.map Q04.term).take k).isEmpty) m.term=[32,43,32]:=by rw[hem,Q2d,(Xe4 HK)];rfl
        have HG:=Lib.hid hsg
        clear hsg hem
        go_wp2_with (go_at_call 37;refine (Xo0 HK).mono ?_;rintro r w5 ⟨rfl,hb5⟩;have H5:=Lib.hid hb5;clear hb5)
        exact ⟨⟨k+1,by rw[(Xo1 HK),HG.out];exact Q5k (by simp[ByteArray.data_append]),congrArg (Value.int .i64) (by omega),hkl,Below.next0 (Xo3 HK) H5.out⟩,by simp only[intOf];omega⟩
      ·have hkz:k=0:=by omega
       have hem:((ms.map Q04.term).take k).isEmpty=true:=by rw[hkz];rfl
       have hk0':¬(0:Int)<(k:Int):=by omega
       have hk1:((k:Int)==0)=true:=by rw[beq_iff_eq];omega
       clear hkz
       cases ng with
       |true=>
        have hsg:Q2d (true && ((ms.map Q04.term).take k).isEmpty) m.term=[45]:=by rw[hem,Q2d,(Xe4 HK)];rfl
        have HG:=Lib.hid hsg
        clear hsg hem
        go_wp2_with (go_at_call 37;refine (Xo0 HK).mono ?_;rintro r w5 ⟨rfl,hb5⟩;have H5:=Lib.hid hb5;clear hb5)
        exact ⟨⟨k+1,by rw[(Xo1 HK),HG.out];exact Q5k (by simp[ByteArray.data_append]),congrArg (Value.int .i64) (by omega),hkl,Below.next0 (Xo3 HK) H5.out⟩,by simp only[intOf];omega⟩
       |false=>
        have hsg:Q2d (true && ((ms.map Q04.term).take k).isEmpty) m.term=[]:=by rw[hem,Q2d,(Xe4 HK)];rfl
        have HG:=Lib.hid hsg
        clear hsg hem
        go_wp2_with (go_at_call 37;refine (Xo0 HK).mono ?_;rintro r w5 ⟨rfl,hb5⟩;have H5:=Lib.hid hb5;clear hb5)
        exact ⟨⟨k+1,by rw[(Xo1 HK),HG.out];exact Q5k (by simp[ByteArray.data_append]),congrArg (Value.int .i64) (by omega),hkl,Below.next0 (Xo3 HK) H5.out⟩,by simp only[intOf];omega⟩
     ·have hkl':¬((k:Int)<(l:Int)):=by omega
      have htk:(ms.map Q04.term).take k=ms.map Q04.term:=List.take_of_length_le (by rw[List.length_map];omega)
      rw[htk] at hS1
      have HK:=Xh2 hS1 hbk
      clear hS1 hbk htk
      go_wp2_with fail
      refine ⟨⟨i+1,?_,congrArg (Value.int .i64) (by omega),hlt,Below.next0 (Xo5 HR) (Below.next0 H2.out (Xe1 HK))⟩,by simp only[intOf];omega⟩
      rw[(Xo0 HR)]
      refine Q5k ?_
      have hpy:Q4n (ms.map Q04.term)=Q0l true (ms.map Q04.term):=by rw[Q4n,if_neg (by intro h;exact HN0.out (List.map_eq_nil_iff.1 h))]
      rw[hpy]
      have h1:=(Xo0 HK)
      simp only[ByteArray.data_append,Array.toList_append,<-h1]
      simp
  ·have hlt':¬((i:Int)<(n:Int)):=by omega
   have hie:i=F.length:=by omega
   have hall:(Q0y F).take i=Q0y F:=List.take_of_length_le (by unfold Q0y;rw[List.length_map];omega)
   rw[hall] at hL0
   have HS:=Xh2 hL0 hbr
   clear hL0 hbr hall hie
   go_wp2_with fail
   go_ret
   exact ⟨fun _=>by rw[(Xo0 HS)];rfl,fun h=>absurd (Xo1 H) h,Below.next0 H1.out (Xe1 HS)⟩
end Go.Proofs.YtdilmfakkppgpaaGreatDoor
namespace Go.Proofs.YtdilmfakkppgpaaGreatDoor
open Go Go.RowKit
section
variable {P:Program}
def Qq6 (P:Program) (ops:Array Oper) (C:World->Prop) (V:Nat->Value->World->Prop) (a0:Act) (n:Nat) (Mid:Value->World->Prop):List Oper->Prop
 |[o,o2]=>(∀a w,C w->Q9p ops a0 a->(∀i∈Q3o o,V i (Q0j ops a i) w)->Q3i P Mid ((execOp a.eval o).run P w))/\n∈Q3o o2/\∀a w,Q9p ops a0 a->(execOp a.eval o2).run P w=.ok (.value (Q0j ops a n)) w
 |_=>False
theorem Qo1 {l:List Oper} {n i:Nat} {a:Act} (hn:l.length=n+2) (hi:i≠n+1):Q0j (l.take (n+1)).toArray a i=Q0j l.toArray a i:=by
 unfold Q0j
 have h:(l.take (n+1)).toArray[i]?=l.toArray[i]?:=by
  simp only[List.getElem?_toArray,List.getElem?_take]
  split
  ·rfl
  ·rw[List.getElem?_eq_none (by omega)]
 rw[h]
theorem Qkk {l:List Oper} {n:Nat} {a0 a:Act} (hn:l.length=n+2) (hag:Q9p l.toArray a0 a) (hs:Q0j l.toArray a (n+1)=Q0j l.toArray a0 (n+1)):Q9p (l.take (n+1)).toArray a0 a:=by
 refine ⟨hag.1,hag.2.1,fun t ht=>?_⟩
 obtain ⟨o2,ho2⟩:∃o2,l[n+1]?=some o2:=⟨_,List.getElem?_eq_getElem (by omega)⟩
 by_cases h2:o2.dst=some t
 ·have e1:∀b:Act,Q0j l.toArray b (n+1)=b.tmps.getD t undef:=fun b=>by
   unfold Q0j
   rw[List.getElem?_toArray,ho2,Option.bind_some,h2]
  rw[e1,e1] at hs
  by_cases hlt:t<a0.tmps.size
  ·have hlt':t<a.tmps.size:=by rw[hag.2.1];exact hlt
   rw[Array.getD_eq_getD_getElem?,Array.getD_eq_getD_getElem?,Array.getElem?_eq_getElem hlt,Array.getElem?_eq_getElem hlt',Option.getD_some,Option.getD_some] at hs
   rw[Array.getElem?_eq_getElem hlt,Array.getElem?_eq_getElem hlt',hs]
  ·have hsz:=hag.2.1
   have h3:a0.tmps.size<=t:=Nat.le_of_not_lt hlt
   rw[Array.getElem?_eq_none (xs:=a.tmps) (Nat.le_trans (Nat.le_of_eq hsz) h3),Array.getElem?_eq_none (xs:=a0.tmps) h3]
 ·refine hag.2.2 t fun o ho e=>?_
  obtain ⟨i,hi,rfl⟩:=List.getElem_of_mem ho
  have hi':i<l.length:=by simpa using hi
  by_cases hin:i=n+1
  ·subst hin
   rw[List.getElem?_eq_getElem hi'] at ho2
   injection ho2 with ho2
   exact h2 (by rw[<-ho2];exact e)
  ·refine ht l[i] ?_ e
   rw[List.mem_iff_getElem?]
   refine ⟨i,?_⟩
   show (l.take (n+1))[i]?=_
   rw[List.getElem?_take,if_pos (by omega),List.getElem?_eq_getElem hi']
theorem Q93 {Q:Exit->Act->World->Prop} {id:Nat} {l:List Oper} {a0:Act} {w:World} (hm:P.follows .mixedOrders=true) (I:Qrf) (hN:∀(i:Nat) o,l[i]?=some o->o.dst=none->∀D vs v w,I D (Q48 vs i v) w->I D vs w) (hB:Q74 l a0.tmps.size=true) (h0:I (fun _=>false) (Q0j l.toArray a0) w.drew)
 (step:Q3t P l.toArray I a0 l 0) (fin:∀D vs w,(∀j,j<l.length->D j=true)->I D vs w->Q .normal (Q18 vs l 0 a0) w):(Code.region id l.toArray true).wp P Q a0 w:=
 (wpIn_wide (n:=6)).1 (wpIn_region_any hm (Q7b (fun _=>trivial) rfl (fun m _ _ _ _ h=>callsIn_wide.2 h) I (by simpa using hN) a0 hB (by simpa using step) (by simpa using fin) _ _ _ _ (by simp)
   ⟨by
     have hf:(fun j=>(Array.replicate l.toArray.size false).getD j false)=fun _=>false:=by
      funext j
      rw[Array.getD_eq_getD_getElem?,Array.getElem?_replicate]
      split <;> rfl
     rw[hf];exact h0,⟨rfl,rfl,fun _ _=>rfl⟩,by simp,fun j oj _ hj=>by
     rw[Array.getD_eq_getD_getElem?,Array.getElem?_replicate] at hj
     split at hj <;> cases hj⟩))
theorem Q6i {Q:Exit->Act->World->Prop} {id:Nat} {l:List Oper} {a0:Act} {w:World} (hm:P.follows .mixedOrders=true) (n:Nat) (hn:l.length=n+2) (C:World->Prop) (hC:∀w w',C w->Below w.heap.size w w'->C w') (V:Nat->Value->World->Prop) (hV:∀i v w w',V i v w->Below w.heap.size w w'->V i v w') (Mid:Value->World->Prop)
 (hB:Q74 l a0.tmps.size=true) (hA:Qns l n=true) (hG:(l.all fun o=>o.guard.isNone)=true) (hD:(l.all fun o=>o.dst.isSome)=true) (h0:C w.drew)
 (step:Q3d P Qfg (l.take (n+1)).toArray C V a0 (l.take n) 0) (last:Qq6 P l.toArray C V a0 n Mid (l.drop n)) (fin:∀vs w,Mid (vs n) w->vs (n+1)=vs n->Q .normal (Q18 vs l 0 a0) w):(Code.region id l.toArray true).wp P Q a0 w:=by
 have hguard:∀(k:Nat) (o:Oper),l[k]?=some o->∀y,Region.wanted o y=true:=fun k o ho y=>by
  have h1:=List.all_eq_true.1 hG o (List.mem_of_getElem? ho)
  unfold Region.wanted
  cases hg:o.guard with
  |none=>rfl
  |some g=>rw[hg] at h1;cases h1
 obtain ⟨o1,o2,hdrop⟩:∃o1 o2,l.drop n=[o1,o2]:=by
  have h1:(l.drop n).length=2:=by rw[List.length_drop];omega
  cases hl:l.drop n with
  |nil=>rw[hl] at h1;cases h1
  |cons x r=>
   cases r with
   |nil=>rw[hl] at h1;cases h1
   |cons y s=>
    cases s with
    |nil=>exact ⟨x,y,rfl⟩
    |cons z s=>rw[hl] at h1;simp at h1
 have ho1:l[n]?=some o1:=by have:=congrArg (fun x=>x[0]?) hdrop;simpa using this
 have ho2:l[n+1]?=some o2:=by have:=congrArg (fun x=>x[1]?) hdrop;simpa using this
 rw[hdrop] at last
 obtain ⟨last1,last2,last3⟩:=last
 have hall:∀(k:Nat) (o:Oper),l[k]?=some o->Q7a P l.toArray (fun D vs w=>(if D n=true then (Mid (vs n) w/\(D (n+1)=true->vs (n+1)=vs n)) else (C w/\∀j,D j=true->V j (vs j) w))/\(D (n+1)=false->vs (n+1)=Q0j l.toArray a0 (n+1))) a0 k o:=by
  intro k o ho a w D hI0 hag hk hdeps hcl
  obtain ⟨hI,hI2⟩:=hI0
  have hkn:k<=n+1:=by have:=(List.getElem?_eq_some_iff.1 ho).1;omega
  refine ⟨hguard k o ho _,?_⟩
  by_cases hk2:k=n+1
  ·subst hk2
   rw[ho2] at ho
   injection ho with ho
   subst ho
   have hDn:D n=true:=hdeps n last2
   simp only[hDn,if_true] at hI
   rw[last3 a w hag]
   show (if Q47 D (n+1) n=true then _ else _)/\_
   have e1:Q47 D (n+1) n=true:=by unfold Q47;rw[if_neg (by omega)];exact hDn
   rw[if_pos e1]
   have e2:Q48 (Q0j l.toArray a) (n+1) (Q0j l.toArray a n) n=Q0j l.toArray a n:=by unfold Q48;rw[if_neg (by omega)]
   have e3:Q48 (Q0j l.toArray a) (n+1) (Q0j l.toArray a n) (n+1)=Q0j l.toArray a n:=by unfold Q48;rw[if_pos rfl]
   rw[e2,e3]
   exact ⟨⟨hI.1,fun _=>rfl⟩,fun h=>by rw[Qa7] at h;cases h⟩
  ·have hkn':k<=n:=by omega
   have hDn:D n=false:=Qev hA (D:=D) (fun j oj hj=>hcl j oj (by simpa using hj)) _ k rfl hkn' hk
   have hDn1:D (n+1)=false:=by
    cases hb:D (n+1) with
    |false=>rfl
    |true=>have:=hcl (n+1) o2 (by simpa using ho2) hb n last2;rw[hDn] at this;cases this
   simp only[hDn] at hI
   obtain ⟨hCw,hVw⟩:=hI
   have hS:∀u,Q47 D k (n+1)=false->Q48 (Q0j l.toArray a) k u (n+1)=Q0j l.toArray a0 (n+1):=fun u _=>by unfold Q48;rw[if_neg (fun e=>hk2 e.symm)];exact hI2 hDn1
   have hdv:∀i∈Q3o o,V i (Q0j l.toArray a i) w:=fun i hi=>hVw i (hdeps i hi)
   by_cases hkl:k=n
   ·subst hkl
    rw[ho1] at ho
    injection ho with ho
    subst ho
    have h1:=last1 a w hCw hag hdv
    have hK:∀u w',Mid u w'->(if Q47 D k k=true then (Mid (Q48 (Q0j l.toArray a) k u k) w'/\(Q47 D k (k+1)=true->Q48 (Q0j l.toArray a) k u (k+1)=Q48 (Q0j l.toArray a) k u k)) else (C w'/\∀j,Q47 D k j=true->V j (Q48 (Q0j l.toArray a) k u j) w')):=fun u w' h=>by
     rw[Qa7,if_pos rfl]
     have e1:Q47 D k (k+1)=false:=by unfold Q47;rw[if_neg (by omega)];exact hDn1
     have e2:Q48 (Q0j l.toArray a) k u k=u:=by unfold Q48;rw[if_pos rfl]
     rw[e1,e2]
     exact ⟨h,fun h=>by cases h⟩
    revert h1
    generalize (execOp a.eval o1).run P w=res
    intro h1
    cases res with
    |ok x w'=>
     cases x with
     |value u=>exact ⟨hK u w' h1,hS u⟩
     |enter f args=>
      refine Calls.mono h1 ?_
      rintro e w'' ⟨v,rfl,hf⟩
      exact ⟨v,rfl,hK v w'' hf,hS v⟩
     |skip=>exact ⟨hK undef w' h1,hS undef⟩
     |_=>exact h1.elim
    |halt x w'=>exact h1.elim
   ·have htake:(l.take n)[k]?=some o:=by rw[List.getElem?_take,if_pos (by omega)];exact ho
    have h1:=Q3d.at_ _ _ _ _ step htake
    rw[Nat.zero_add] at h1
    have h1:=h1 a w hCw (Qkk hn hag (hI2 hDn1)) (fun i hi=>by
     rw[Qo1 hn (fun e=>by subst e;have:=hdeps _ hi;rw[hDn1] at this;cases this)]
     exact hdv i hi)
    rw[if_pos (hguard k o ho _)] at h1
    have hK:∀u w',Below w.heap.size w w'->V k u w'->(if Q47 D k n=true then (Mid (Q48 (Q0j l.toArray a) k u n) w'/\(Q47 D k (n+1)=true->Q48 (Q0j l.toArray a) k u (n+1)=Q48 (Q0j l.toArray a) k u n)) else (C w'/\∀j,Q47 D k j=true->V j (Q48 (Q0j l.toArray a) k u j) w')):=fun u w' hb hu=>by
     have e:Q47 D k n=false:=by unfold Q47;rw[if_neg (fun e=>hkl e.symm)];exact hDn
     rw[e,if_neg (by decide)]
     refine ⟨hC _ _ hCw hb,fun j hj=>?_⟩
     unfold Q48
     unfold Q47 at hj
     by_cases hjk:j=k
     ·subst hjk;rw[if_pos rfl];exact hu
     ·rw[if_neg hjk]
      rw[if_neg hjk] at hj
      exact hV _ _ _ _ (hVw j hj) hb
    revert h1
    generalize (execOp a.eval o).run P w=res
    intro h1
    cases res with
    |ok x w'=>
     cases x with
     |value u=>exact ⟨hK u w' h1.1 h1.2,hS u⟩
     |enter f args=>
      refine Calls.mono h1 ?_
      rintro e w'' ⟨v,rfl,hb,hv⟩
      exact ⟨v,rfl,hK v w'' hb hv,hS v⟩
     |skip=>exact ⟨hK undef w' h1.1 h1.2,hS undef⟩
     |_=>exact h1.elim
    |halt x w'=>exact h1.elim
 have hallX:∀(r:List Oper) (k:Nat),(∀(i:Nat) o,r[i]?=some o->l[k+i]?=some o)->Q3t P l.toArray (fun D vs w=>(if D n=true then (Mid (vs n) w/\(D (n+1)=true->vs (n+1)=vs n)) else (C w/\∀j,D j=true->V j (vs j) w))/\(D (n+1)=false->vs (n+1)=Q0j l.toArray a0 (n+1))) a0 r k:=by
  intro r
  induction r with
  |nil=>intro k _;trivial
  |cons o r ih=>
   intro k h
   refine ⟨hall k o (by simpa using h 0 o rfl),ih (k+1) fun i o' ho'=>?_⟩
   have:=h (i+1) o' (by simpa using ho')
   rwa[show k+(i+1)=k+1+i by omega] at this
 refine Q93 hm (fun D vs w=>(if D n=true then (Mid (vs n) w/\(D (n+1)=true->vs (n+1)=vs n)) else (C w/\∀j,D j=true->V j (vs j) w))/\(D (n+1)=false->vs (n+1)=Q0j l.toArray a0 (n+1))) (fun i o hi hd D vs v w h=>?_) hB ?_ (hallX l 0 fun i o h=>by rw[Nat.zero_add];exact h) (fun D vs w hall h=>?_)
 ·have h1:=List.all_eq_true.1 hD o (List.mem_of_getElem? hi)
  rw[hd] at h1;cases h1
 ·exact ⟨⟨h0,fun j hj=>by cases hj⟩,fun _=>rfl⟩
 ·have hDn:=hall n (by omega)
  have hDn1:=hall (n+1) (by omega)
  simp only[hDn,if_true] at h
  exact fin vs w h.1.1 (h.1.2 hDn1)
end
end Go.Proofs.YtdilmfakkppgpaaGreatDoor
namespace Go.Proofs.YtdilmfakkppgpaaGreatDoor
open Go.RowKit WordsM
def NoD (v:Value):Prop:=∀x:Nat,v≠nv .u32 x
theorem Q9g (b:Bool):NoD (.bool b):=fun _=>by simp[nv]
theorem Q54 (a:Option Addr) (n c:Nat):NoD (.slice a n c):=fun _=>by simp[nv]
theorem Qcm (e:Int):NoD (.int .i64 e):=fun _=>by simp[nv]
theorem Q3h.offD {w:World} {B:Nat} {e:TypeId} {k:Nat} {a:Option Addr} {n c:Nat} {xs:List Value} (h:Q3h NoD w B e k a n c xs) {aw:Option Addr} {l cw v:Nat} (hw:Q0r w aw l cw v):dig (2^32) v=[]∨∃b o,aw=some ⟨b,o,none⟩/\b<w.heap.size/\(∀(j:Nat) x,(dig (2^32) v)[j]?=some x->w.cell? ⟨b,o+j,none⟩=some (nv .u32 x))/\∀y,a=some y->y.block≠b:=by
 rcases hw.rd with h0|⟨b,o,rfl,hb,hc⟩
 ·exact .inl h0
 cases hL:dig (2^32) v with
 |nil=>exact .inl rfl
 |cons y r=>
  rw[hL] at hc
  refine .inr ⟨b,o,rfl,hb,hc,fun z hz e=>?_⟩
  have h1:=hc 0 y rfl
  rcases h.1.form with ⟨h0,_⟩|⟨g,cur,h0,_,_,hh,_⟩
  ·rw[h0] at hz;cases hz
  ·rw[h0] at hz
   injection hz with hz
   subst hz
   have e:g=b:=e
   subst e
   rw[cell_of_row _ _ _ _ _ _ hh] at h1
   exact h.2 g cur _ _ h0 hh _ (Array.mem_toList_iff.2 (Array.mem_of_getElem? h1)) y rfl
theorem Q3h.grownD {w w':World} {B:Nat} {e:TypeId} {k:Nat} {a:Option Addr} {n c:Nat} {xs:List Value} (h:Q3h NoD w B e k a n c xs) (hg:w.grownBy w' (a.map (·.block))) {aw:Option Addr} {l cw v:Nat} (hw:Q0r w aw l cw v):Q0r w' aw l cw v:=by
 refine ⟨hw.len,hw.cap,hw.most,?_⟩
 rcases h.offD hw with h0|⟨b,o,rfl,hb,hc,hne⟩
 ·exact .inl h0
 ·refine .inr ⟨b,o,rfl,Nat.lt_of_lt_of_le hb hg.size,fun j x hx=>(World.cell?_of_block (a:=⟨b,o+j,none⟩) (hg.block b hb fun e=>?_)).trans (hc j x hx)⟩
  cases a with
  |none=>simp at e
  |some z=>
   simp only[Option.map_some,Option.some.injEq] at e
   exact hne z rfl e.symm
theorem Q0r.set1 {w:World} {a:Option Addr} {n c v:Nat} (h:Q0r w a n c v) {p:Addr} {u:Value} (hp:w.cell? p=some u) (hu:NoD u) (x:Value):Q0r (w.setCell p x) a n c v:=by
 refine ⟨h.len,h.cap,h.most,?_⟩
 have:=h.rd.store1 hp hu x
 rwa[World.size_setCell]
def Q4p (w0 w:World):List Q0f->List Value->Prop
 |[],xs=>xs=[]
 |p::r,xs=>∃n a l c e v ae le ce ys,xs=.bool n:: .slice a l c:: .int .i64 e:: .slice ae le ce::ys/\(Q0r w a l c v/\Q4k n v e/\dy (sgn n v) e=p.1/\Q0i w0 ae le ce p.2)/\Q4p w0 w r ys
theorem Q4p.len {w0 w:World}:∀{ts:List Q0f} {xs:List Value},Q4p w0 w ts xs->xs.length=ts.length*4
 |[],_,h=>by cases h;rfl
 |p::r,_,⟨_,_,_,_,_,_,_,_,_,ys,rfl,_,h⟩=>by
  have:=Q4p.len h
  simp only[List.length_cons];omega
theorem Q4p.one {w0 w:World}:∀{ts:List Q0f} {xs:List Value},Q4p w0 w ts xs->∀u∈xs,u.oneCell'=true/\NoD u
 |[],_,h,u,hu=>by cases h;cases hu
 |p::r,_,⟨_,_,_,_,_,_,_,_,_,ys,rfl,_,h⟩,u,hu=>by
  simp only[List.mem_cons] at hu
  rcases hu with rfl|rfl|rfl|rfl|hu
  ·exact ⟨rfl,Q9g _⟩
  ·exact ⟨rfl,Q54 _ _ _⟩
  ·exact ⟨rfl,Qcm _⟩
  ·exact ⟨rfl,Q54 _ _ _⟩
  ·exact Q4p.one h u hu
theorem Q4p.app {w0 w:World} {ts':List Q0f} {ys:List Value} (h':Q4p w0 w ts' ys):∀{ts:List Q0f} {xs:List Value},Q4p w0 w ts xs->Q4p w0 w (ts++ts') (xs++ys)
 |[],_,h=>by cases h;exact h'
 |p::r,_,⟨n,a,l,c,e,v,ae,le,ce,zs,rfl,hg,h⟩=>⟨n,a,l,c,e,v,ae,le,ce,zs++ys,rfl,hg,Q4p.app h' h⟩
theorem Q4p.parts {w0 w:World}:∀{ts:List Q0f} {xs:List Value} (k:Nat),Q4p w0 w ts xs->Q4p w0 w (ts.take k) (xs.take (k*4))/\Q4p w0 w (ts.drop k) (xs.drop (k*4))
 |ts,xs,0,h=>by simp only[Nat.zero_mul,List.take_zero,List.drop_zero];exact ⟨rfl,h⟩
 |[],_,k+1,h=>by cases h;simp only[List.take_nil,List.drop_nil];exact ⟨rfl,rfl⟩
 |p::r,_,k+1,⟨n,a,l,c,e,v,ae,le,ce,zs,rfl,hg,h⟩=>by
  obtain ⟨h1,h2⟩:=Q4p.parts k h
  rw[show (k+1)*4=k*4+4 by omega]
  exact ⟨⟨n,a,l,c,e,v,ae,le,ce,zs.take (k*4),rfl,hg,h1⟩,h2⟩
theorem Q4p.keep {w0 w w':World} (hk:∀{a l c v},Q0r w a l c v->Q0r w' a l c v):∀{ts:List Q0f} {xs:List Value},Q4p w0 w ts xs->Q4p w0 w' ts xs
 |[],_,h=>h
 |_::_,_,⟨n,a,l,c,e,v,ae,le,ce,zs,hx,hg,h⟩=>⟨n,a,l,c,e,v,ae,le,ce,zs,hx,⟨hk hg.1,hg.2⟩,Q4p.keep hk h⟩
theorem Q4p.old {w0 w1 w:World} (hk:∀{a l c E},Q0i w0 a l c E->Q0i w1 a l c E):∀{ts:List Q0f} {xs:List Value},Q4p w0 w ts xs->Q4p w1 w ts xs
 |[],_,h=>h
 |_::_,_,⟨n,a,l,c,e,v,ae,le,ce,zs,hx,hg,h⟩=>⟨n,a,l,c,e,v,ae,le,ce,zs,hx,⟨hg.1,hg.2.1,hg.2.2.1,hk hg.2.2.2⟩,Q4p.old hk h⟩
theorem Q4p.get {w0 w:World}:∀{ts:List Q0f} {xs:List Value} {i:Nat} {p:Q0f},Q4p w0 w ts xs->ts[i]?=some p->∃n a l c e v ae le ce,xs[i*4]?=some (.bool n)/\xs[i*4+1]?=some (.slice a l c)/\xs[i*4+2]?=some (.int .i64 e)/\xs[i*4+3]?=some (.slice ae le ce)/\Q0r w a l c v/\Q4k n v e/\dy (sgn n v) e=p.1/\Q0i w0 ae le ce p.2
 |[],_,i,p,_,hp=>by simp at hp
 |q::r,_,0,p,⟨n,a,l,c,e,v,ae,le,ce,zs,rfl,⟨h1,h2,h3,h4⟩,h⟩,hp=>by
  simp only[List.getElem?_cons_zero,Option.some.injEq] at hp
  subst hp
  exact ⟨n,a,l,c,e,v,ae,le,ce,rfl,rfl,rfl,rfl,h1,h2,h3,h4⟩
 |q::r,_,i+1,p,⟨_,_,_,_,_,_,_,_,_,zs,rfl,_,h⟩,hp=>by
  obtain ⟨n,a,l,c,e,v,ae,le,ce,h0,h1,h2,h3,h4⟩:=Q4p.get (i:=i) h (by simpa using hp)
  rw[show (i+1)*4=i*4+4 by omega]
  exact ⟨n,a,l,c,e,v,ae,le,ce,h0,h1,h2,h3,h4⟩
theorem Q4p.put {w0 w:World} {n':Bool} {a':Option Addr} {l' c' v':Nat} {e':Int} (hd:Q0r w a' l' c' v') (hc:Q4k n' v' e'):∀{ts:List Q0f} {xs:List Value} {i:Nat} {p:Q0f},Q4p w0 w ts xs->ts[i]?=some p->Q4p w0 w (ts.set i (dy (sgn n' v') e',p.2)) (((xs.set (i*4) (.bool n')).set (i*4+1) (.slice a' l' c')).set (i*4+2) (.int .i64 e'))
 |[],_,i,p,_,hp=>by simp at hp
 |q::r,_,0,p,⟨n,a,l,c,e,v,ae,le,ce,zs,rfl,⟨h1,h2,h3,h4⟩,h⟩,hp=>by
  simp only[List.getElem?_cons_zero,Option.some.injEq] at hp
  subst hp
  exact ⟨n',a',l',c',e',v',ae,le,ce,zs,rfl,⟨hd,hc,rfl,h4⟩,h⟩
 |q::r,_,i+1,p,⟨n,a,l,c,e,v,ae,le,ce,zs,rfl,hg,h⟩,hp=>by
  have ih:=Q4p.put hd hc (i:=i) h (by simpa using hp)
  rw[show (i+1)*4=i*4+4 by omega]
  exact ⟨n,a,l,c,e,v,ae,le,ce,_,rfl,hg,ih⟩
def Qo2 (w:World) (a:Option Addr) (n c:Nat) (ts:List Q0f):Prop:=
 ts.length=n/\n<=c/\c<=9223372036854775807/\(ts=[]∨∃b o,a=some ⟨b,o,none⟩/\b<w.heap.size/\∃xs,Q4p w w ts xs/\∀j u,xs[j]?=some u->w.cell? ⟨b,o+j,none⟩=some u)
theorem Qin {S:Nat}:∀{l:List Q0f} {c:Q0f},(∀p∈l,bnd S p.1)->bnd S c.1->∀p∈Q6n l c,bnd (S+1) p.1
 |[],c,_,hc,p,h=>by rw[Q6n,List.mem_singleton] at h;subst h;exact hc.more (Nat.le_succ _)
 |q::r,c,hl,hc,p,h=>by
  rw[Q6n] at h
  split at h
  ·rcases List.mem_cons.1 h with rfl|h
   ·exact (hl _ (by simp)).more (Nat.le_succ _)
   ·exact Qin (fun x hx=>hl x (by simp[hx])) hc p h
  ·split at h
   ·rcases List.mem_cons.1 h with rfl|h
    ·exact (hl q (by simp)).add hc
    ·exact (hl p (by simp[h])).more (Nat.le_succ _)
   ·rcases List.mem_cons.1 h with rfl|h
    ·exact hc.more (Nat.le_succ _)
    ·exact (hl p h).more (Nat.le_succ _)
theorem Q9h {T:Nat} {ts:List Q0f} (h:∀p∈ts,bnd T p.1):∀i,∀p∈Q1o (ts.take i),bnd (T+i) p.1
 |0,p,hp=>by simp[Q1o] at hp
 |i+1,p,hp=>by
  cases hi:ts[i]? with
  |none=>
   have:ts.take (i+1)=ts.take i:=by
    rw[List.getElem?_eq_none_iff] at hi
    rw[List.take_of_length_le hi,List.take_of_length_le (by omega)]
   rw[this] at hp
   exact (Q9h h i p hp).more (by omega)
  |some c=>
   rw[List.take_add_one,hi,show ts.take i++Option.toList (some c)=ts.take i++[c] from rfl,Q64] at hp
   exact Qin (Q9h h i) ((h c (List.mem_of_getElem? hi)).more (by omega)) p hp
theorem Qio:∀(l:List Q0f) (c:Q0f),(Q6n l c).length<=l.length+1
 |[],c=>by simp[Q6n]
 |q::r,c=>by
  have:=Qio r c
  rw[Q6n]
  split
  ·simp only[List.length_cons];omega
  ·split <;> simp
theorem Q9i (ts:List Q0f):∀i,(Q1o (ts.take i)).length<=i
 |0=>by simp[Q1o]
 |i+1=>by
  cases hi:ts[i]? with
  |none=>
   have:ts.take (i+1)=ts.take i:=by
    rw[List.getElem?_eq_none_iff] at hi
    rw[List.take_of_length_le hi,List.take_of_length_le (by omega)]
   rw[this]
   have:=Q9i ts i;omega
  |some c=>
   rw[List.take_add_one,hi,show ts.take i++Option.toList (some c)=ts.take i++[c] from rfl,Q64]
   have h1:=Q9i ts i
   have h2:=Qio (Q1o (ts.take i)) c
   omega
theorem Qh5 {c:Q0f}:∀(l:List Q0f) (k:Nat),k<=l.length->(∀j p,j<k->l[j]?=some p->0<Q25 p.2 c.2)->Q6n l c=l.take k++Q6n (l.drop k) c
 |l,0,_,_=>by simp
 |[],k+1,h,_=>by simp at h
 |q::r,k+1,h,hj=>by
  rw[Q6n,if_pos (hj 0 q (by omega) rfl),Qh5 r k (by simpa using h) (fun j p hjk hp=>hj (j+1) p (by omega) (by simpa using hp))]
  rfl
theorem Qo3 {c p:Q0f} {l:List Q0f} {k:Nat} (hk:∀j p,j<k->l[j]?=some p->0<Q25 p.2 c.2) (hp:l[k]?=some p) (he:Q25 p.2 c.2=0):Q6n l c=l.set k (p.1+c.1,p.2):=by
 have hlt:=(List.getElem?_eq_some_iff.1 hp).1
 rw[Qh5 l k (Nat.le_of_lt hlt) hk,Q58 l k p hp,Q6n,if_neg (by omega),if_pos ((Q5s _ _).1 he),List.set_eq_take_append_cons_drop,if_pos hlt]
theorem Qez {c:Q0f} {l:List Q0f} {k:Nat} (hkl:k<=l.length) (hk:∀j p,j<k->l[j]?=some p->0<Q25 p.2 c.2) (hp:∀p,l[k]?=some p->Q25 p.2 c.2<0):Q6n l c=l.take k++(c::l.drop k):=by
 rw[Qh5 l k hkl hk]
 cases hd:l[k]? with
 |none=>
  rw[List.getElem?_eq_none_iff] at hd
  rw[List.drop_of_length_le hd,Q6n]
 |some p=>
  have h1:=hp p hd
  rw[Q58 l k p hd,Q6n,if_neg (by omega),if_neg (fun e=>by rw[(Q5s _ _).2 e] at h1;omega)]
theorem Q5i:Tryz.prog.underlying 142=some (.slice (Tryz.prog.elem 142)):=by kernel_rfl
theorem Qf0 (w:World):(sizeOf (Tryz.prog.elem 142)).run Tryz.prog w=.ok 4 w:=by kernel_rfl
theorem Qf1:(Tryz.prog.info? 144).map (fun i=>(i.zero,i.size,i.bytes))=some (some (.agg #[.bool false,.slice none 0 0,.int .i64 0,.slice none 0 0]),4,64):=by kernel_rfl
theorem Qf2 (w:World) (a:Option Addr) (n c k:Nat) (h1:k<=n):
 (Instr.slice 142 (.slice a n c) (some (.int .i64 (k:Int))) none none).run Tryz.prog w=.ok (.slice (Qkw a c k 4) (n-k) (c-k)) w:=by
 rw[run_slice_l w _ a n c Q5i .i64 (k:Int) (by omega) (by omega),Qf0]
 show Result.ok (Value.slice (Qkw a c ((k:Int).toNat) 4) _ _) w=_
 rw[Int.toNat_natCast]
theorem Qf3 (w:World) (a:Option Addr) (n c k:Nat) (h2:k<=c):
 (Instr.slice 142 (.slice a n c) none (some (.int .i64 (k:Int))) none).run Tryz.prog w=.ok (.slice a k c) w:=by
 rw[run_slice_h w _ a n c Q5i .i64 (k:Int) (by omega) (by omega),Qf0]
 have:=Q9j a c 4
 show Result.ok (Value.slice (Qkw a c 0 4) _ _) w=_
 rw[this,Nat.sub_zero,Nat.sub_zero,Int.toNat_natCast]
theorem Qkl (w:World) (r:Option Nat):w.grownBy w r:=⟨rfl,rfl,rfl,Nat.le_refl _,fun _ _ _=>rfl⟩
theorem Qh6 {w w':World} {B:Nat} {w0:World} (h:w.grownBy w' none) (hb:Below B w0 w) (hB:B<=w.heap.size):Below B w0 w':=
 hb.trans ⟨h.os,h.tape,h.output,h.size,fun z hz=>h.block z (Nat.lt_of_lt_of_le hz hB) (fun e=>by cases e)⟩
theorem Q4h (ty:TypeId) (w:World) (B:Nat) (hB:B<=w.heap.size) (a:Option Addr) (n c:Nat) (xs:List Value) (h:Q3h NoD w B 144 4 a n c xs) (b:Option Addr) (m d:Nat) (ys:List Value) (hl:ys.length=m*4) (hy:m=0∨∃x,b=some x/\∀j u,ys[j]?=some u->w.cell? (x.add j)=some u) (h1:∀u∈ys,u.oneCell'=true/\NoD u) (hn:n+m<=100000):
 ∃a' c' w',(Builtin.append_ #[142,142] ty #[.slice a n c,.slice b m d]).run Tryz.prog w=.ok (.slice a' (n+m) c') w'/\Q3h NoD w' B 144 4 a' (n+m) c' (xs++ys)/\w.grownBy w' (a.map (·.block))/\(a'=a∨∀y,a'=some y->y.block=w.heap.size):=by
 obtain ⟨i0,hi0,hz0,hz1,hz2⟩:=Q0u Qf1
 rcases Nat.eq_zero_or_pos m with rfl|hm
 ·obtain rfl:ys=[]:=List.length_eq_zero_iff.1 (by omega)
  exact ⟨a,c,w,Q6s w _ ty _ i0 Q5i hi0 a b n c d h.1.cap.1,by simpa using h,Qkl _ _,.inl rfl⟩
 ·rcases hy with h0|⟨x,rfl,hx⟩
  ·omega
  obtain ⟨g,c',w',hrun,hrow,hgr,hat⟩:=Q50 (P:=Tryz.prog) NoD w 142 ty 144 i0 _ 4 64 Q5i hi0 hz0 hz1 hz2 rfl (by
   intro u hu
   simp[Value.cells] at hu
   rcases hu with rfl|rfl|rfl|rfl
   ·exact Q9g _
   ·exact Q54 _ _ _
   ·exact Qcm _
   ·exact Q54 _ _ _) B hB a n c xs h x m d ys hl hx (fun u hu=>(h1 u hu).1) (fun u hu=>(h1 u hu).2) hm (by omega) (by decide) (by decide)
  refine ⟨_,c',w',hrun,hrow,hgr,?_⟩
  rcases hat with h0|h0
  ·exact .inl h0.symm
  ·exact .inr fun y hy=>by injection hy with hy;subst hy;exact h0
theorem Q3h.src {Pr:Value->Prop} {w:World} {B:Nat} {e:TypeId} {n c:Nat} {a:Option Addr} {xs:List Value} (h:Q3h Pr w B e 4 a n c xs) (k m:Nat) (hkm:k+m=n):m=0∨∃x,Qkw a c k 4=some x/\∀j u,((xs.drop (k*4)).take (m*4))[j]?=some u->w.cell? (x.add j)=some u:=by
 rcases Nat.eq_zero_or_pos m with h0|hm
 ·exact .inl h0
 refine .inr ?_
 rcases h.1.form with ⟨_,h0,_⟩|⟨g,cur,rfl,_,_,_⟩
 ·omega
 have hc:=h.1.cap.1
 refine ⟨⟨g,k*4,none⟩,?_,fun j u hj=>?_⟩
 ·unfold Qkw
  rw[if_neg (by omega)]
  simp[Addr.add_lit]
 ·rw[List.getElem?_take] at hj
  split at hj
  ·rw[List.getElem?_drop] at hj
   obtain ⟨g',e',_,_,hcell⟩:=h.1.at_ hj
   injection e' with e'
   injection e' with e'
   subst e'
   rw[Addr.add_lit];exact hcell
  ·cases hj
theorem Qbw (w0 wr:World) (hb:Below w0.heap.size w0 wr) (ao:Option Addr) (m co:Nat) (xs:List Value) (out:List Q0f) (hlen:out.length=m) (hrow:Q3h NoD wr w0.heap.size 144 4 ao m co xs) (henc:Q4p w0 wr out xs) (k:Nat) (hk:k<=m) (cc:Q0f) (lit:List Value) (hlit:Q4p w0 wr [cc] lit) (hm:m<=10000):
 ∃a7 c7 w7,(Builtin.append_ #[142,142] 142 #[.slice none 0 0,.slice ao k co]).run Tryz.prog wr=.ok (.slice a7 k c7) w7/\Below w0.heap.size w0 w7/\
  ∃a8 c8 w8,(Builtin.append_ #[142,142] 142 #[.slice a7 k c7,.slice (some ⟨w7.heap.size,0,none⟩) 1 1]).run Tryz.prog (w7.alloc (.cells lit.toArray 144))=.ok (.slice a8 (k+1) c8) w8/\Below w0.heap.size w0 w8/\
   ∃a9 c9 w9,(Builtin.append_ #[142,142] 142 #[.slice a8 (k+1) c8,.slice (Qkw ao co k 4) (m-k) (co-k)]).run Tryz.prog w8=.ok (.slice a9 (m+1) c9) w9/\Below w0.heap.size w0 w9/\
    Q3h NoD w9 w0.heap.size 144 4 a9 (m+1) c9 (xs.take (k*4)++lit++xs.drop (k*4))/\Q4p w0 w9 (out.take k++cc::out.drop k) (xs.take (k*4)++lit++xs.drop (k*4)):=by
 have hxl:xs.length=m*4:=by rw[henc.len,hlen]
 have hone:=fun u hu=>henc.one u hu
 have hB:=hb.size
 obtain ⟨hp1,hp2⟩:=henc.parts k
 --the front
 have hs7:k=0∨∃x,ao=some x/\∀j u,(xs.take (k*4))[j]?=some u->wr.cell? (x.add j)=some u:=by
  rcases Nat.eq_zero_or_pos k with h0|hpos
  ·exact .inl h0
  ·rcases hrow.1.form with ⟨_,h0,_⟩|⟨g,cur,rfl,_,_,_⟩
   ·omega
   ·refine .inr ⟨⟨g,0,none⟩,rfl,fun j u hj=>?_⟩
    rw[List.getElem?_take] at hj
    split at hj
    ·obtain ⟨g',e',_,_,hcell⟩:=hrow.1.at_ hj
     injection e' with e'
     injection e' with e'
     subst e'
     rw[Addr.add_lit,Nat.zero_add];exact hcell
    ·cases hj
 obtain ⟨a7,c7,w7,hrun7,hrow7,hgr7,hat7⟩:=Q4h 142 wr w0.heap.size hB none 0 0 [] (Q3h.nil_ _ _ _ _ _) ao k co (xs.take (k*4)) (by rw[List.length_take,hxl];omega) hs7 (fun u hu=>hone u (List.mem_of_mem_take hu)) (by omega)
 rw[Nat.zero_add,List.nil_append] at hrow7
 rw[Nat.zero_add] at hrun7
 have hgr7':wr.grownBy w7 none:=hgr7
 have hb7:=Qh6 hgr7' hb hB
 have hbw7:Below wr.heap.size wr w7:=⟨hgr7'.os,hgr7'.tape,hgr7'.output,hgr7'.size,fun z hz=>hgr7'.block z hz (fun e=>by cases e)⟩
 refine ⟨a7,c7,w7,hrun7,hb7,?_⟩
 --the term
 have hal:Below w7.heap.size w7 (w7.alloc (.cells lit.toArray 144)):=(Below.refl _ _).alloc (Nat.le_refl _) _
 have hll:lit.length=4:=by rw[hlit.len];rfl
 have hb7a:=Below.next0 hb7 hal
 obtain ⟨a8,c8,w8,hrun8,hrow8,hgr8,hat8⟩:=Q4h 142 (w7.alloc (.cells lit.toArray 144)) w0.heap.size hb7a.size a7 k c7 (xs.take (k*4)) (hrow7.step hal) (some ⟨w7.heap.size,0,none⟩) 1 1 lit (by rw[hll]) (.inr ⟨_,rfl,fun j u hj=>by
  rw[Addr.add_lit,Nat.zero_add,cell_of_row _ _ _ _ _ _ (heap_alloc_new _ _)]
  simpa using hj⟩) (fun u hu=>hlit.one u hu) (by omega)
 have hne7:∀z,z<wr.heap.size->a7.map (·.block)≠some z:=fun z hz e=>by
  cases a7 with
  |none=>simp at e
  |some y=>
   simp only[Option.map_some,Option.some.injEq] at e
   rcases hat7 with h0|h0
   ·cases h0
   ·have:=h0 y rfl;omega
 have hb8:Below w0.heap.size w0 w8:=hb7a.trans ⟨hgr8.os,hgr8.tape,hgr8.output,hgr8.size,fun z hz=>hgr8.block z (Nat.lt_of_lt_of_le hz hb7a.size) (fun e=>hne7 z (by omega) e.symm)⟩
 have hb8r:Below wr.heap.size wr w8:=(Below.next0 hbw7 hal).trans ⟨hgr8.os,hgr8.tape,hgr8.output,hgr8.size,fun z hz=>hgr8.block z (Nat.lt_of_lt_of_le hz (Below.next0 hbw7 hal).size) (fun e=>hne7 z hz e.symm)⟩
 refine ⟨a8,c8,w8,hrun8,hb8,?_⟩
 --the rest
 have hsrc9:=(hrow.step hb8r).src k (m-k) (by omega)
 have htk:(xs.drop (k*4)).take ((m-k)*4)=xs.drop (k*4):=List.take_of_length_le (by rw[List.length_drop,hxl,Nat.sub_mul];omega)
 rw[htk] at hsrc9
 obtain ⟨a9,c9,w9,hrun9,hrow9,hgr9,hat9⟩:=Q4h 142 w8 w0.heap.size hb8.size a8 (k+1) c8 (xs.take (k*4)++lit) hrow8 (Qkw ao co k 4) (m-k) (co-k) (xs.drop (k*4)) (by rw[List.length_drop,hxl,Nat.sub_mul]) hsrc9 (fun u hu=>hone u (List.mem_of_mem_drop hu)) (by omega)
 rw[show k+1+(m-k)=m+1 by omega] at hrun9 hrow9
 have hne8:∀z,z<wr.heap.size->a8.map (·.block)≠some z:=fun z hz e=>by
  rcases hat8 with h0|h0
  ·rw[h0] at e;exact hne7 z hz e
  ·cases a8 with
   |none=>simp at e
   |some y=>
    simp only[Option.map_some,Option.some.injEq] at e
    have h1:=h0 y rfl
    have h2:=(Below.next0 hbw7 hal).size
    omega
 have hb9:Below w0.heap.size w0 w9:=hb8.trans ⟨hgr9.os,hgr9.tape,hgr9.output,hgr9.size,fun z hz=>hgr9.block z (Nat.lt_of_lt_of_le hz hb8.size) (fun e=>hne8 z (by omega) e.symm)⟩
 refine ⟨a9,c9,w9,hrun9,hb9,hrow9,?_⟩
 have hkeep:∀{a l c v},Q0r wr a l c v->Q0r w9 a l c v:=fun h=>hrow8.grownD hgr9 (h.step hb8r)
 have h1:=(hp1.keep hkeep)
 have h2:=(hp2.keep hkeep)
 have h3:=(hlit.keep hkeep)
 have:=Q4p.app h2 (Q4p.app h3 h1)
 rwa[show out.take k++[cc]++out.drop k=out.take k++cc::out.drop k by simp] at this
end Go.Proofs.YtdilmfakkppgpaaGreatDoor
