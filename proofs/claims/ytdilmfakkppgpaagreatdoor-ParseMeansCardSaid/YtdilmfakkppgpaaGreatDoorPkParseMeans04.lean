/- Part 4 of the proof of LawParseMeans: NatI, NatM, RefA. Condition: as each theorem says; none at the end. -/
import Derived.Lib.ItoaNum
import Derived.Deep.LoopGhost
import Derived.Deep.RegionHeldLaw
import Derived.Deep.DrawnRows
import Derived.Test.YtdilmfakkppgpaaGreatDoorPkParseMeans03
set_option maxRecDepth 100000
set_option maxHeartbeats 16000000
namespace Go.Proofs.YtdilmfakkppgpaaGreatDoor
open Go.RowKit WordsM
theorem Qtn (x:Nat) (w:World):Calls Tryz.prog 205 #[.int .u64 (x:Int)] w fun e w'=>e=.returned (.bool false)/\w=w':=by
 go_enter Tryz.func205,Tryz.ntmps205
 go_wp2_with fail
 go_ret
 exact ⟨by simp,rfl⟩
theorem Qnw (x y:Nat) (w:World):Calls Tryz.prog 173 #[.int .u64 (x:Int),.int .u64 (y:Int)] w fun e w'=>e=.returned (.int .i64 (Lib.compareInt x y))/\w=w':=by
 have hn:=fun x=>Qtn x w
 by_cases h1:(x:Int)<(y:Int)
 ·go_enter Tryz.func173,Tryz.ntmps173
  go_wp2_with (refine (hn _).mono ?_;rintro e w1 ⟨rfl,rfl⟩)
  go_ret
  exact ⟨by simp[Lib.compareInt,h1],rfl⟩
 ·by_cases h2:(y:Int)<(x:Int)
  ·go_enter Tryz.func173,Tryz.ntmps173
   go_wp2_with (refine (hn _).mono ?_;rintro e w1 ⟨rfl,rfl⟩)
   go_ret
   exact ⟨by rw[Lib.compareInt,if_neg (by omega),if_pos (by omega)];rfl,rfl⟩
  ·go_enter Tryz.func173,Tryz.ntmps173
   go_wp2_with (refine (hn _).mono ?_;rintro e w1 ⟨rfl,rfl⟩)
   go_ret
   exact ⟨by rw[Lib.compareInt,if_neg (by omega),if_neg (by omega)];rfl,rfl⟩
theorem Q1m {B u v:Nat} (hB:2<=B) (h:u<=v):(dig B u).length<=(dig B v).length:=by
 refine Q23 hB (Nat.lt_of_le_of_lt h ?_)
 have h1:=Q2o (B:=B) (by omega) (dig B v) (Q22 hB v)
 rwa[Q0r hB] at h1
theorem Qdk {B:Nat} (hB:0<B) {A K:List Nat} {j x y:Nat} (hA:Low B A) (hx:A[j]?=some x) (hy:K[j]?=some y) (hd:A.drop (j+1)=K.drop (j+1)) (hlt:x<y):val B A<val B K:=by
 have hja:j<A.length:=(List.getElem?_eq_some_iff.1 hx).1
 have hjk:j<K.length:=(List.getElem?_eq_some_iff.1 hy).1
 have h1:=Q3b (B:=B) A j
 have h2:=Q3b (B:=B) K j
 rw[List.drop_eq_getElem_cons hja,(List.getElem?_eq_some_iff.1 hx).2] at h1
 rw[List.drop_eq_getElem_cons hjk,(List.getElem?_eq_some_iff.1 hy).2,<-hd] at h2
 simp only[val] at h1 h2
 have h3:=Q2o hB (A.take j) fun z hz=>hA z (List.mem_of_mem_take hz)
 rw[List.length_take,Nat.min_eq_left (by omega)] at h3
 generalize val B (A.drop (j+1))=R at*
 have h4:B^j*(x+B*R+1)<=B^j*(y+B*R):=Nat.mul_le_mul_left _ (by omega)
 rw[Nat.mul_add (B^j) (x+B*R) 1,Nat.mul_one] at h4
 omega
theorem Q8k (a:Option Addr) (n c:Nat) (ls:List Nat) (b:Option Addr) (m d:Nat) (ks:List Nat) (w:World) (h1:WordsIn w a n c ls) (h2:WordsIn w b m d ks) (hn:n<=100000):
 Calls Tryz.prog 149 #[.slice a n c,.slice b m d] w fun e w'=>(∃r:Int,e=.returned (.int .i64 r)/\(r<0↔val (2^64) ls<val (2^64) ks)/\(0<r↔val (2^64) ks<val (2^64) ls))/\Below w.heap.size w w':=by
 have hl1:=h1.len
 have hl2:=h2.len
 have ht1:=trim_len ls
 have ht2:=trim_len ks
 have hv1:val (2^64) (trimL ls)=val (2^64) ls:=Q1b ls
 have hv2:val (2^64) (trimL ks)=val (2^64) ks:=Q1b ks
 have hd1:=Q1j (B:=2^64) (by decide) h1.low
 have hd2:=Q1j (B:=2^64) (by decide) h2.low
 have hc1:=fun W (hb:Below w.heap.size w W)=>Q1e a n c ls W (h1.step hb)
 have hc2:=fun W (hb:Below w.heap.size w W)=>Q1e b m d ks W (h2.step hb)
 have hw1:=fun W (hb:Below w.heap.size w W)=>(h1.step hb).trim
 have hw2:=fun W (hb:Below w.heap.size w W)=>(h2.step hb).trim
 rw[<-hv1,<-hv2]
 rw[<-hv1] at hd1
 rw[<-hv2] at hd2
 obtain ⟨A,hA⟩:∃A,trimL ls=A:=⟨_,rfl⟩
 obtain ⟨K,hK⟩:∃K,trimL ks=K:=⟨_,rfl⟩
 rw[hA] at ht1 hc1 hw1 hd1⊢
 rw[hK] at ht2 hc2 hw2 hd2⊢
 have HC:=Xh2 hc1 hc2
 have HW:=Xh2 hw1 hw2
 have hlenL:A.length<K.length->val (2^64) A<val (2^64) K:=fun h=>Nat.lt_of_not_le fun hle=>by
  have h3:=Q1m (B:=2^64) (by decide) hle
  rw[<-hd1,<-hd2] at h3;omega
 have hlenR:K.length<A.length->val (2^64) K<val (2^64) A:=fun h=>Nat.lt_of_not_le fun hle=>by
  have h3:=Q1m (B:=2^64) (by decide) hle
  rw[<-hd1,<-hd2] at h3;omega
 have HL:=Xh2 hlenL hlenR
 clear hA hK hv1 hv2 hc1 hc2 hw1 hw2 h1 h2 hd1 hd2 hlenL hlenR
 by_cases hne:A.length=K.length
 ·have hneI:((A.length:Int) != (K.length:Int))=false:=by rw[hne];simp
  go_enter Tryz.func149,Tryz.ntmps149
  go_wp2_with (first
   |(go_at_call_of 143 a;refine ((Xo0 HC) _ (Below.refl _ _)).mono ?_;rintro e w1 ⟨rfl,hb1⟩;have HB1:=Lib.hid hb1;clear hb1)
   |(go_at_call_of 143 b;refine ((Xe1 HC) _ HB1.out).mono ?_;rintro e w2 ⟨rfl,hb2⟩;have HB2:=Lib.hid (Below.next0 HB1.out hb2);clear hb2))
  have HWA:=Xh2 ((Xo0 HW) w2 HB2.out) ((Xe1 HW) w2 HB2.out)
  clear HW HC HL HB1
  go_loopw [5] (fun iv wr=>∃j:Nat,iv=.int .i64 ((j:Int)-1)/\j<=A.length/\A.drop j=K.drop j/\Below w2.heap.size w2 wr) (fun iv _=>(intOf iv+1).toNat)
  case atStart=>exact ⟨A.length,by rw[hne],Nat.le_refl _,by rw[List.drop_length,List.drop_eq_nil_of_le (by omega)],Below.refl _ _⟩
  case round=>
   obtain ⟨j,rfl,hj,hdr,hb⟩:=hrel
   cases j with
   |zero=>
    have heq:A=K:=by simpa using hdr
    have hbq:=Below.next0 HB2.out hb
    have HE:=Xh2 heq hbq
    clear hdr heq hb hbq
    go_wp2_with fail
    go_ret
    exact ⟨⟨0,rfl,by rw[(Xo0 HE)];simp,by rw[(Xo0 HE)];simp⟩,(Xe1 HE)⟩
   |succ j=>
    obtain ⟨x,hx⟩:∃x,A[j]?=some x:=⟨_,List.getElem?_eq_getElem (by omega)⟩
    obtain ⟨y,hy⟩:∃y,K[j]?=some y:=⟨_,List.getElem?_eq_getElem (by omega)⟩
    obtain ⟨g1,o1,hae,hg1,hcx⟩:=((Xo0 HWA).rd.below hb).at_ hx
    obtain ⟨g2,o2,hbe,hg2,hcy⟩:=((Xe1 HWA).rd.below hb).at_ hy
    subst hae hbe
    have hjI:((j+1:Nat):Int)-1=(j:Int):=by omega
    have hjA:(j:Int)<(A.length:Int):=by omega
    have hjK:(j:Int)<(K.length:Int):=by omega
    have HH:=Xh4 hdr hb hx hy
    clear hdr hb hx hy
    rw[hjI]
    by_cases hxy:x=y
    ·subst hxy
     have hxx:((x:Int) != (x:Int))=false:=by simp
     go_wp2_with fail
     go_quiet (fail)
     go_wp2_with fail
     refine ⟨⟨j,rfl,by omega,?_,⟨(Xo1 HH).os,(Xo1 HH).tape,(Xo1 HH).output,(Xo1 HH).size,(Xo1 HH).block⟩⟩,by simp only[intOf];omega⟩
     have h1:=(Xo0 HH)
     have e1:=(List.getElem?_eq_some_iff.1 (Xo2 HH))
     have e2:=(List.getElem?_eq_some_iff.1 (Xe3 HH))
     rw[List.drop_eq_getElem_cons e1.1,List.drop_eq_getElem_cons e2.1,e1.2,e2.2,h1]
    ·have hxx:((x:Int) != (y:Int))=true:=by rw[bne_iff_ne];omega
     have hcu:∀W,Calls Tryz.prog 173 #[.int .u64 (x:Int),.int .u64 (y:Int)] W fun e w'=>e=.returned (.int .i64 (Lib.compareInt x y))/\∃n,w'=W.drewN n:=fun W=>(Qnw x y W).mono (by rintro e w' ⟨rfl,rfl⟩;exact ⟨rfl,0,rfl⟩)
     go_wp2_with fail
     go_quiet (fail)
     obtain ⟨W5,hW5⟩:∃W5,wr.drewN nq=W5:=⟨_,rfl⟩
     have hcx2:W5.cell? ⟨g1,o1+j,none⟩=some (.int .u64 (x:Int)):=by rw[<-hW5,World.cell?_drewN];exact hcx
     have hcy2:W5.cell? ⟨g2,o2+j,none⟩=some (.int .u64 (y:Int)):=by rw[<-hW5,World.cell?_drewN];exact hcy
     have hb5:Below w2.heap.size w2 W5:=by rw[<-hW5];exact ⟨(Xo1 HH).os,(Xo1 HH).tape,(Xo1 HH).output,(Xo1 HH).size,(Xo1 HH).block⟩
     have HB5:=Lib.hid hb5
     rw[hW5]
     clear hW5 hb5
     go_wp2_with fail
     go_quiet (first|(refine Calls.quiet_of (hcu _)))
     go_wp2_with fail
     go_ret
     have hbq:=Below.next0 HB2.out HB5.out
     refine ⟨⟨_,rfl,?_⟩,⟨hbq.os,hbq.tape,hbq.output,hbq.size,hbq.block⟩⟩
     unfold Lib.compareInt
     by_cases hlt:x<y
     ·have:=Qdk (B:=2^64) (by decide) (Xo0 HWA).low (Xo2 HH) (Xe3 HH) (Xo0 HH) hlt
      rw[if_pos (by omega)]
      exact ⟨⟨fun _=>this,fun _=>by decide⟩,⟨fun h=>by simp at h,fun h=>by omega⟩⟩
     ·have:=Qdk (B:=2^64) (by decide) (Xe1 HWA).low (Xe3 HH) (Xo2 HH) (Xo0 HH).symm (by omega)
      rw[if_neg (by omega),if_pos (by omega)]
      exact ⟨⟨fun h=>by simp at h,fun h=>by omega⟩,⟨fun _=>this,fun _=>by decide⟩⟩
 ·have hneI:((A.length:Int) != (K.length:Int))=true:=by rw[bne_iff_ne];omega
  have hcm:=fun W=>Tryz.Qxc (A.length:Int) (K.length:Int) W
  go_enter Tryz.func149,Tryz.ntmps149
  go_wp2_with (first
   |(go_at_call_of 143 a;refine ((Xo0 HC) _ (Below.refl _ _)).mono ?_;rintro e w1 ⟨rfl,hb1⟩;have HB1:=Lib.hid hb1;clear hb1)
   |(go_at_call_of 143 b;refine ((Xe1 HC) _ HB1.out).mono ?_;rintro e w2 ⟨rfl,hb2⟩;have HB2:=Lib.hid (Below.next0 HB1.out hb2);clear hb2)
   |(refine (hcm _).mono ?_;rintro e w3 ⟨rfl,hw3⟩;obtain rfl:=hw3.symm))
  go_ret
  refine ⟨⟨_,rfl,?_⟩,HB2.out⟩
  unfold Lib.compareInt
  by_cases hlt:A.length<K.length
  ·have:=(Xo0 HL) hlt
   rw[if_pos (by omega)]
   exact ⟨⟨fun _=>this,fun _=>by decide⟩,⟨fun h=>by simp at h,fun h=>by omega⟩⟩
  ·have:=(Xe1 HL) (by omega)
   rw[if_neg (by omega),if_pos (by omega)]
   exact ⟨⟨fun h=>by simp at h,fun h=>by omega⟩,⟨fun _=>this,fun _=>by decide⟩⟩
theorem Qnx {d:Nat} (h:d<2^64) (h0:d≠0):dig (2^64) d=[d]:=by rw[Q3w (by decide) h0,Nat.mod_eq_of_lt h,Nat.div_eq_of_lt h,Q0x]
theorem Qdl (w:World) (m:Nat) (hm:m<18446744073709551616) (T:TypeId):WordsIn (w.alloc (.cells #[.int .u64 (m:Int)] T)) (some ⟨w.heap.size,0,none⟩) 1 1 [m]:=
 ⟨rfl,Nat.le_refl _,by omega,fun x hx=>by rw[List.mem_singleton] at hx;subst hx;exact hm,.inr ⟨w.heap.size,0,rfl,by rw[World.size_alloc];omega,fun j x hx=>by
   cases j with
   |zero=>simp only[List.getElem?_cons_zero,Option.some.injEq] at hx;subst hx;rw[cell_of_row _ _ _ _ _ _ (heap_alloc_new _ _)];rfl
   |succ j=>simp at hx⟩⟩
theorem Qto (B m:Nat):val B [m]=m:=by simp[val]
theorem Qhv (a:Option Addr) (n c:Nat) (ls:List Nat) (b:Option Addr) (cb:Nat) (d:Nat) (w:World) (h1:WordsIn w a n c ls) (h2:WordsIn w b 1 cb [d]) (hn:n<=100000) (hd:9223372036854775808<=d) (hv0:val (2^64) ls≠0):
 Calls Tryz.prog 153 #[.slice a n c,.slice b 1 cb] w fun e w'=>∃aq nq cq ar nr cr,e=.returned (.tuple #[.slice aq nq cq,.slice ar nr cr,.bool true])/\WordsIn w' aq nq cq (dig (2^64) (val (2^64) ls / d))/\WordsIn w' ar nr cr (dig (2^64) (val (2^64) ls%d))/\Below w.heap.size w w'/\∀x,aq=some x->w.heap.size<=x.block:=by
 have hdl:d<18446744073709551616:=h2.low d (by simp)
 have ht1:=trim_len ls
 have hl1:=h1.len
 have hv1:val (2^64) (trimL ls)=val (2^64) ls:=Q1b ls
 have htd:trimL [d]=[d]:=by have:=Q4i [] (x:=d) (by omega);simpa using this
 have hc1:=fun W (hb:Below w.heap.size w W)=>Q1e a n c ls W (h1.step hb)
 have hc2:=fun W (hb:Below w.heap.size w W)=>Q1e b 1 cb [d] W (h2.step hb)
 rw[htd] at hc2
 have hw1:=fun W (hb:Below w.heap.size w W)=>(h1.step hb).trim
 have hw2:=fun W (hb:Below w.heap.size w W)=>h2.step hb
 rw[<-hv1] at hv0⊢
 obtain ⟨A,hA⟩:∃A,trimL ls=A:=⟨_,rfl⟩
 rw[hA] at ht1 hc1 hw1 hv0⊢
 have HC:=Xh2 hc1 hc2
 have HW:=Xh3 hw1 hw2 hv0
 clear hA hv1 hc1 hc2 hw1 hw2 h1 h2 htd hv0
 have hlen1:([d]:List Nat).length=1:=rfl
 rw[hlen1] at HC
 by_cases hlt:val (2^64) A<d
 ·have HQ:=Xh3 (Nat.div_eq_of_lt hlt) (Nat.mod_eq_of_lt hlt) hlt
  clear hlt
  go_enter Tryz.func153,Tryz.ntmps153
  go_wp2_with (first
   |(go_at_call_of 143 a;refine ((Xo0 HC) _ (Below.refl _ _)).mono ?_;rintro e w1 ⟨rfl,hb1⟩;have HB1:=Lib.hid hb1;clear hb1)
   |(go_at_call_of 143 b;refine ((Xe1 HC) _ HB1.out).mono ?_;rintro e w2 ⟨rfl,hb2⟩;have HB2:=Lib.hid (Below.next0 HB1.out hb2);clear hb2)
   |(go_at_call_of 149 a;refine (Q8k a A.length c A b 1 cb [d] _ ((Xo0 HW) _ HB2.out) ((Xo1 HW) _ HB2.out) (by omega)).mono ?_;rintro e w3 ⟨⟨r,rfl,hr1,hr2⟩,hb3⟩;rw[Qto] at hr1;have hr0:r<0:=hr1.2 (Xe2 HQ);have HB3:=Lib.hid (Below.next0 HB2.out hb3);clear hb3 hr1 hr2)
   |(refine (Qhu a A.length c A _ ((Xo0 HW) _ HB3.out) (by omega) (Xe2 HW)).mono ?_;rintro e w4 ⟨a4,n4,c4,rfl,hW4,hb4⟩;have HB4:=Xh2 hW4 (Below.next0 HB3.out hb4);clear hW4 hb4))
  refine ⟨rfl,.tuple #[.slice none 0 0,.slice a4 n4 c4,.bool true],by simp[results,go_sem],none,0,0,a4,n4,c4,rfl,?_,?_,(Xe1 HB4),fun x e=>by cases e⟩
  ·rw[(Xo0 HQ)];exact ⟨rfl,Nat.le_refl _,by omega,fun x hx=>by simp[Q0x] at hx,.inl rfl⟩
  ·rw[(Xo1 HQ)];exact (Xo0 HB4)
 ·have hle:d<=val (2^64) A:=by omega
  have HQ:=Lib.hid hle
  have HV:=Lib.hid hlt
  clear hlt hle
  obtain ⟨rm,hrm⟩:∃rm,val (2^64) A%d=rm:=⟨_,rfl⟩
  have hml:rm<18446744073709551616:=by rw[<-hrm];exact Nat.lt_trans (Nat.mod_lt _ (by omega)) hdl
  have HRM:=Lib.hid hrm
  clear hrm
  go_enter Tryz.func153,Tryz.ntmps153
  go_wp2_with (first
   |(go_at_call_of 143 a;refine ((Xo0 HC) _ (Below.refl _ _)).mono ?_;rintro e w1 ⟨rfl,hb1⟩;have HB1:=Lib.hid hb1;clear hb1)
   |(go_at_call_of 143 b;refine ((Xe1 HC) _ HB1.out).mono ?_;rintro e w2 ⟨rfl,hb2⟩;have HB2:=Lib.hid (Below.next0 HB1.out hb2);clear hb2)
   |(go_at_call_of 149 a;refine (Q8k a A.length c A b 1 cb [d] _ ((Xo0 HW) _ HB2.out) ((Xo1 HW) _ HB2.out) (by omega)).mono ?_;rintro e w3 ⟨⟨r,rfl,hr1,hr2⟩,hb3⟩;rw[Qto] at hr1;have hr0:¬r<0:=fun h=>HV.out (hr1.1 h);have HB3:=Lib.hid (Below.next0 HB2.out hb3);
     obtain ⟨gb,ob,hbe,hgb,hcb⟩:=((Xo1 HW) _ HB3.out).rd.at_ (k:=0) (x:=d) rfl;rw[Nat.add_zero] at hcb;subst hbe;clear hb3 hr1 hr2)
   |(go_at_call_of 179 a;have hbw:=Qla a A.length c A d w3 ((Xo0 HW) _ HB3.out) (by omega) hd hdl;rw[HRM.out] at hbw;refine hbw.mono ?_;rintro e w4 ⟨a4,n4,c4,rfl,hW4,hb4,hfr⟩;have HB4:=Xh3 hW4 (Below.next0 HB3.out hb4) (fun x (e:a4=some x)=>Nat.le_trans HB3.out.size (hfr x e));clear hW4 hb4 hbw hfr)
   |(refine (Q1e _ 1 1 [rm] _ (Qdl w4 rm hml 74)).mono ?_;rintro e w5 ⟨rfl,hb5⟩;have HB5:=Lib.hid hb5;clear hb5))
  have hb6:=Below.next0 ((Below.refl _ _).alloc (Nat.le_refl _) (.cells #[.int .u64 (rm:Int)] 74)) HB5.out
  have htr:=((Qdl w4 rm hml 74).step HB5.out).trim
  have hdg:=Q1j (B:=2^64) (by decide) (Qdl w4 rm hml 74).low
  rw[Qto] at hdg
  rw[hdg] at htr
  refine ⟨rfl,.tuple #[.slice a4 n4 c4,.slice (some ⟨w4.heap.size,0,none⟩) (trimL [rm]).length 1,.bool true],by simp[results,go_sem],a4,n4,c4,_,_,_,rfl,(Xo0 HB4).step hb6,?_,Below.next0 (Xo1 HB4) hb6,(Xe2 HB4)⟩
  rw[HRM.out,hdg]
  exact htr
end Go.Proofs.YtdilmfakkppgpaaGreatDoor
namespace Go.Proofs.YtdilmfakkppgpaaGreatDoor
namespace NatM
abbrev Q4x:Nat:=4294967296
def val:List Nat->Nat
 |[]=>0
 |m::r=>m+Q4x*val r
def trimL:List Nat->List Nat
 |[]=>[]
 |m::r=>match trimL r with
  |[]=>if m=0 then [] else [m]
  |x::y=>m::x::y
def Q55 (l:List Nat):Prop:=∀m∈l,m<Q4x
theorem Q1b:∀l:List Nat,val (trimL l)=val l
 |[]=>rfl
 |m::r=>by
  have ih:=Q1b r
  simp only[trimL,val]
  split
  ·rename_i h
   rw[h] at ih
   split
   ·rename_i h0;rw[h0,<-ih];rfl
   ·rw[<-ih];rfl
  ·rename_i x y h
   rw[h] at ih
   simp only[val] at ih⊢
   rw[ih]
theorem trim_snoc_zero:∀l:List Nat,trimL (l++[0])=trimL l
 |[]=>rfl
 |m::r=>by
  have ih:=trim_snoc_zero r
  simp only[List.cons_append,trimL,ih]
theorem trim_snoc (m:Nat) (hm:m≠0):∀l:List Nat,trimL (l++[m])=l++[m]
 |[]=>by simp[trimL,hm]
 |x::r=>by
  have ih:=trim_snoc m hm r
  simp only[List.cons_append,trimL,ih]
  cases h:r++[m] with
  |nil=>simp at h
  |cons a b=>rfl
theorem Q3y (l:List Nat):trimL l=l.take (trimL l).length:=by
 induction l with
 |nil=>rfl
 |cons m r ih=>
  simp only[trimL]
  cases h:trimL r with
  |nil=>
   simp only
   split <;> simp
  |cons x y=>
   simp only
   rw[h] at ih
   rw[List.length_cons,List.take_succ_cons,<-ih]
theorem trim_len (l:List Nat):(trimL l).length<=l.length:=by
 rw[Q3y];exact List.length_take_le' _ _
def Qlb:List Nat->List Nat × Nat
 |[]=>([],0)
 |m::r=>(((Qlb r).2*Q4x+m) / 10::(Qlb r).1,((Qlb r).2*Q4x+m)%10)
theorem Qlc:∀l:List Nat,(Qlb l).2<10
 |[]=>by decide
 |m::r=>Nat.mod_lt _ (by decide)
theorem Qhw:∀{l:List Nat},Q55 l->Q55 (Qlb l).1
 |[],_=>fun m hm=>by cases hm
 |m::r,h=>by
  have ih:=Qhw (l:=r) fun x hx=>h x (by simp[hx])
  have h1:m<4294967296:=h m (by simp)
  have h2:=Qlc r
  intro x hx
  rcases List.mem_cons.1 hx with rfl|hx
  ·show ((Qlb r).2*4294967296+m) / 10<4294967296
   omega
  ·exact ih x hx
def halves (ws:List Nat):List Nat:=ws.flatMap fun w=>[w%Q4x,w / Q4x]
theorem halves_small {ws:List Nat} (h:∀w∈ws,w<18446744073709551616):Q55 (halves ws):=by
 intro m hm
 obtain ⟨w,hw,hm⟩:=List.mem_flatMap.1 hm
 have:=h w hw
 show m<4294967296
 rcases List.mem_cons.1 hm with rfl|hm
 ·exact Nat.mod_lt _ (by decide)
 ·rw[List.mem_singleton] at hm
  subst hm
  show w / 4294967296<_
  omega
theorem halves_len (ws:List Nat):(halves ws).length=2*ws.length:=by
 induction ws with
 |nil=>rfl
 |cons w r ih=>simp only[halves,List.flatMap_cons,List.length_append,List.length_cons,List.length_nil] at ih⊢;omega
theorem Q2o:∀{l:List Nat},Q55 l->val l<Q4x^l.length
 |[],_=>by simp[val]
 |m::r,h=>by
  have ih:=Q2o (l:=r) fun x hx=>h x (by simp[hx])
  have h1:m<4294967296:=h m (by simp)
  simp only[val,List.length_cons,Nat.pow_succ]
  rw[Nat.mul_comm (Q4x^r.length)]
  have h2:Q4x*(val r+1)<=Q4x*Q4x^r.length:=Nat.mul_le_mul_left _ ih
  rw[Nat.mul_add] at h2
  show m+4294967296*val r<_
  have h3:Q4x*val r+Q4x*1=4294967296*val r+4294967296:=rfl
  omega
theorem dec_len (j:Nat):∀n,n<10^j->1<=j->(Lib.decDigits n).length<=j:=by
 induction j with
 |zero=>intro n _ h;omega
 |succ j ih=>
  intro n hn _
  rw[Lib.decDigits]
  split
  ·simp
  ·have hj:1<=j:=by
    rcases Nat.eq_zero_or_pos j with rfl|h
    ·simp at hn;omega
    ·exact h
   have:=ih (n / 10) (by rw[Nat.pow_succ] at hn;omega) hj
   simp only[List.length_append,List.length_singleton]
   omega
theorem dec_val_len {l:List Nat} (h:Q55 l):(Lib.decDigits (val l)).length<=10*l.length+1:=by
 refine dec_len _ _ ?_ (by omega)
 refine Nat.lt_of_lt_of_le (Q2o h) ?_
 rw[Nat.pow_succ,Nat.pow_mul]
 refine Nat.le_trans (Nat.pow_le_pow_left (show Q4x<=10^10 by decide) _) ?_
 omega
end NatM
end Go.Proofs.YtdilmfakkppgpaaGreatDoor
namespace Go.Proofs.YtdilmfakkppgpaaGreatDoor
open Go.RowKit NatM
abbrev nv3 (k:IntKind) (m:Nat):Value:=.int k (m:Int)
def RdN (k:IntKind) (w:World) (B:Nat) (a:Option Addr) (ms:List Nat):Prop:=ms=[]∨∃b o,a=some ⟨b,o,none⟩/\b<B/\∀(j:Nat) m,ms[j]?=some m->w.cell? ⟨b,o+j,none⟩=some (nv3 k m)
section
variable {k:IntKind} {w w':World} {B B':Nat} {a:Option Addr} {ms:List Nat}
theorem RdN.at_ (h:RdN k w B a ms) {j m:Nat} (hm:ms[j]?=some m):∃b o,a=some ⟨b,o,none⟩/\b<B/\w.cell? ⟨b,o+j,none⟩=some (.int k (m:Int)):=by
 rcases h with rfl|⟨b,o,rfl,hb,hc⟩
 ·simp at hm
 ·exact ⟨b,o,rfl,hb,hc j m hm⟩
theorem RdN.below (h:RdN k w B a ms) (hb:Below B w w'):RdN k w' B a ms:=by
 rcases h with rfl|⟨b,o,rfl,hl,hc⟩
 ·exact .inl rfl
 ·exact .inr ⟨b,o,rfl,hl,fun j m hm=>(hb.cell (p:=⟨b,o+j,none⟩) hl).trans (hc j m hm)⟩
theorem RdN.take (h:RdN k w B a ms) (n:Nat):RdN k w B a (ms.take n):=by
 rcases h with rfl|⟨b,o,rfl,hl,hc⟩
 ·exact .inl (by simp)
 ·refine .inr ⟨b,o,rfl,hl,fun j m hm=>hc j m ?_⟩
  rw[List.getElem?_take] at hm
  split at hm
  ·exact hm
  ·cases hm
end
abbrev sv (l:List UInt8):Value:=.string ⟨l.toArray⟩
theorem RdI.rdN {k:IntKind} {w:World} {B:Nat} {a:Option Addr} {ms:List Nat} (h:RdI k w B a ms):RdN k w B a ms:=h
theorem RdN.rdI {k:IntKind} {w:World} {B:Nat} {a:Option Addr} {ms:List Nat} (h:RdN k w B a ms):RdI k w B a ms:=h
theorem Row.rdN {k:IntKind} {w:World} {B:Nat} {e:TypeId} {a:Option Addr} {n c:Nat} {ms:List Nat} (h:Row w B e 1 a n c (ms.map (nv3 k))):RdN k w w.heap.size a ms:=by
 by_cases h0:ms=[]
 ·exact .inl h0
 ·obtain ⟨m,hm⟩:∃m,ms[0]?=some m:=by
   cases ms with
   |nil=>exact absurd rfl h0
   |cons m r=>exact ⟨m,rfl⟩
  obtain ⟨g,rfl,_,hg,_⟩:=h.at_ (j:=0) (x:=nv3 k m) (by rw[List.getElem?_map,hm];rfl)
  refine .inr ⟨g,0,rfl,hg,fun j x hx=>?_⟩
  obtain ⟨g',e,_,_,hc⟩:=h.at_ (j:=j) (x:=nv3 k x) (by rw[List.getElem?_map,hx];rfl)
  injection e with e;injection e with e
  subst e
  rw[Nat.zero_add];exact hc
theorem Qcc (w:World) (a:Option Addr) (n c k:Nat) (h:k<=c):(Instr.slice 54 (.slice a n c) none (some (.int .i64 (k:Int))) (some (.int .i64 (k:Int)))).run Tryz.prog w=.ok (.slice a k k) w:=by
 have ht:Tryz.prog.underlying 54=some (.slice (Tryz.prog.elem 54)):=by kernel_rfl
 have hs:(sizeOf (Tryz.prog.elem 54)).run Tryz.prog w=.ok 1 w:=by kernel_rfl
 rw[run_slice_hm w _ a n c ht .i64 .i64 (k:Int) (k:Int) (by omega) (by omega) (by omega),hs]
 show Result.ok (Value.slice (Qnm a ((k:Int).toNat) 0 1) _ _) w=_
 rw[Qai,Int.toNat_natCast,Nat.sub_zero]
theorem Qal (a:Option Addr) (n c:Nat) (ms:List Nat) (w:World) {B:Nat} (hn:ms.length=n) (hc:n<=c) (hc':c<=9223372036854775807) (h:RdN .u32 w B a ms):
 Calls Tryz.prog 103 #[.slice a n c] w fun e w'=>e=.returned (.slice a (trimL ms).length (trimL ms).length)/\w=w':=by
 have H:=Lib.hid h
 have HN:=Lib.hid hn
 clear h hn
 go_enter Tryz.func103,Tryz.ntmps103
 go_wp2_with fail
 go_loop [3] (fun v=>∃i:Nat,v=.int .i64 (i:Int)/\i<=n/\trimL ms=trimL (ms.take i)) (fun v=>(intOf v).toNat)
 case atStart=>exact ⟨n,rfl,Nat.le_refl _,by rw[List.take_of_length_le (by rw[HN.out];exact Nat.le_refl _)]⟩
 case round=>
  obtain ⟨i,rfl,hi,ht⟩:=hrel
  rcases Nat.eq_zero_or_pos i with rfl|hi0
  ·have HT:=Lib.hid (show (trimL ms).length=0 by rw[ht];rfl)
   have hsl:=fun w=>Qcc w a n c 0 (by omega)
   clear ht
   go_wp2_with fail
   go_ret
   rw[HT.out];exact ⟨rfl,rfl⟩
  ·obtain ⟨i,rfl⟩:∃i',i=i'+1:=⟨i-1,by omega⟩
   obtain ⟨m,hm⟩:∃m,ms[i]?=some m:=⟨_,List.getElem?_eq_getElem (by rw[HN.out];omega)⟩
   obtain ⟨b,o,rfl,hb,hcell⟩:=H.out.at_ hm
   have htk:ms.take (i+1)=ms.take i++[m]:=by rw[List.take_add_one,hm];rfl
   have h0:(0:Int)<=(i:Int):=by omega
   have h1:(i:Int)<(n:Int):=by omega
   by_cases hz:m=0
   ·subst hz
    have HT:=Lib.hid (show trimL ms=trimL (ms.take i) by rw[ht,htk,trim_snoc_zero])
    clear ht htk hm
    go_wp2_with fail
    go_round
    case rel=>exact ⟨i,by go_num,by omega,HT.out⟩
    case measure=>simp[intOf]
   ·have HT:=Lib.hid (show (trimL ms).length=i+1 by rw[ht,htk,trim_snoc m hz,List.length_append,List.length_take_of_le (by rw[HN.out];omega)];rfl)
    have hz':((m:Int)==0)=false:=by rw[beq_eq_false_iff_ne];omega
    have hz2:¬((m:Int)=0):=by omega
    have hsl:=fun w=>Qcc w (some ⟨b,o,none⟩) n c (i+1) (by omega)
    clear ht htk hm
    go_wp2_with fail
    go_ret
    rw[HT.out];exact ⟨rfl,rfl⟩
theorem Q6h:(Tryz.prog.info? 152).map (fun i=>(i.zero,i.size,i.bytes))=some (some (.int .u32 0),1,4):=by kernel_rfl
theorem Qny (v:Nat) (h:v<18446744073709551616):bits BinOp.and IntKind.u64 (v:Int) 4294967295=((v%4294967296:Nat):Int):=
 bits_mask .u64 64 (by decide) (fun n h0 h1=>by rw[IntKind.wrap_u64];omega) 32 (by decide) (v:Int) (by omega) (by omega)
theorem Qhx (ws:List Nat) (i w:Nat) (h:ws[i]?=some w):halves (ws.take (i+1))=halves (ws.take i)++[w%4294967296,w / 4294967296]:=by
 rw[List.take_add_one,h];simp[halves]
theorem Qhy (a:Option Addr) (n c:Nat) (ws:List Nat) (w:World) (hn:ws.length=n) (hm:n<=1000000) (h:RdN .u64 w w.heap.size a ws) (hw:∀x∈ws,x<18446744073709551616):
 Calls Tryz.prog 56 #[.slice a n c] w fun e w'=>∃a' n' c',e=.returned (.slice a' n' c')/\n'=(trimL (halves ws)).length/\n'<=c'/\c'<=9223372036854775807/\RdN .u32 w' w'.heap.size a' (trimL (halves ws))/\Below w.heap.size w w':=by
 have H:=Lib.hid h
 have HN:=Lib.hid hn
 have HWS:=Lib.hid hw
 clear h hn hw
 obtain ⟨i0,hi0,hz0,hz1,hz2⟩:=info_parts Q6h
 go_enter Tryz.func56,Tryz.ntmps56
 go_wp2_with fail
 go_loopw [3,4] (fun v iv wr=>∃(i:Nat) (ao:Option Addr) (co:Nat),iv=.int .i64 (i:Int)/\i<=n/\v=.slice ao (2*i) co/\Row wr w.heap.size 152 1 ao (2*i) co ((halves (ws.take i)).map (nv3 .u32))/\Below w.heap.size w wr) (fun _ iv _=>n-(intOf iv).toNat)
 case atStart=>exact ⟨0,none,0,rfl,Nat.zero_le _,rfl,Row.nil_ _ _ _ _,Below.refl _ _⟩
 case round=>
  obtain ⟨i,ao,co,rfl,hi,rfl,hrow,hbel⟩:=hrel
  by_cases hlt:i<n
  ·obtain ⟨x,hx⟩:∃x,ws[i]?=some x:=⟨_,List.getElem?_eq_getElem (by rw[HN.out];omega)⟩
   have hx64:=HWS.out x (List.mem_of_getElem? hx)
   obtain ⟨b,o,rfl,hb,hcell⟩:=(H.out.below hbel).at_ hx
   have HS:=Lib.hid (Qhx ws i x hx)
   have HB:=Lib.hid hbel
   have HR:=Lib.hid hrow
   have hown:wr.ownsRow w.heap.size 152 1 (.slice ao (2*i) co) (2*i) ((halves (ws.take i)).map (nv3 .u32)):=hrow
   have h0:(0:Int)<=(i:Int):=by omega
   have h1:(i:Int)<(n:Int):=by omega
   have hand:=Qny x hx64
   have hlow:(((x%4294967296:Nat):Int))<4294967296:=by omega
   have hsz:=hbel.size
   have e1:IntKind.u32.wrap ((x:Int)%4294967296)=(x:Int)%4294967296:=by rw[IntKind.wrap_u32];omega
   have e2:IntKind.u32.wrap ((x:Int) / 4294967296)=(x:Int) / 4294967296:=by rw[IntKind.wrap_u32];omega
   clear hx hrow hbel
   go_wp2_with fail
   go_region_held_law (fun w'=>w'.cell? ⟨b,o+i,none⟩=some (.int .u64 (x:Int))) (first|go_keep|(rw[hgrow.cell_far _ (by simp;omega) (by rcases Row.form HR.out with ⟨h,_⟩|⟨g,cur,h,hg,_⟩ <;> (rw[h];simp[Value.ownBlock];try omega))];assumption))
    ((refine step_append_lies _ (by rfl) _ _ _ (by rfl) w.heap.size 152 i0 _ 1 4 Tryz.underlying54 hi0 hz0 hz1 hz2 rfl (by omega) (.slice ao (2*i) co) (2*i) _ (by rfl) ((hown.alloc _).drew)
       ⟨wr.heap.size,0,none⟩ 2 2 [.int .u32 ((x:Int)%4294967296),.int .u32 ((x:Int) / 4294967296)] (by rfl) (by rfl) (World.news_of_block (cs:= #[.int .u32 ((x:Int)%4294967296),.int .u32 ((x:Int) / 4294967296)]) (t:=152) (fr:=(0,0)) (heap_alloc_new wr _)) (by simp[Value.oneCell'])
       (by omega) (by unfold maxLen;omega) (by omega) (by simp;omega) (wr.heap.size+1) (by simp) ?_;intro gg cap w1 hown1 hgrow hat hlt))
   have HO:=Xh3 hown1 hgrow hat
   clear hown hown1 hgrow hat e1 e2 hand hlow
   go_wp2_with fail
   go_roundw
   case rel=>
    obtain ⟨g1,g2,g3⟩:=HO.out
    refine ⟨i+1,some ⟨gg,0,none⟩,cap,by go_num,by omega,rfl,?_,?_⟩
    ·rw[HS.out,List.map_append]
     exact g1
    ·refine Below.grown (HB.out.alloc hsz _).drew g2 (by simp;omega) fun k hk=>?_
     rcases Row.form HR.out with ⟨h,_⟩|⟨g,cur,h,hg,_⟩
     ·rw[h] at hk;cases hk
     ·rw[h] at hk;simp[Value.ownBlock] at hk;omega
   case measure=>simp[intOf];omega
  ·obtain rfl:i=n:=by omega
   rw[List.take_of_length_le (by rw[HN.out];exact Nat.le_refl _)] at hrow
   have hlen:(halves ws).length=2*i:=by rw[halves_len,HN.out]
   have hcap:=hrow.cap
   have hco:co<=9223372036854775807:=hcap.2
   have HB:=Xh3 hbel hcap.1 hco
   have HTR:=Lib.hid (fun wx (hx:wx=wr)=>Qal ao (2*i) co (halves ws) wx (B:=wr.heap.size) hlen hcap.1 hco (by subst hx;exact Row.rdN hrow))
   have HRD:=Lib.hid ((Row.rdN hrow).take (trimL (halves ws)).length)
   have HLE:=Lib.hid (Q3y (halves ws))
   clear hrow hbel hcap hlen hi hlt hco
   go_wp2_with (refine (HTR.out _ rfl).mono ?_;rintro e w' ⟨rfl,rfl⟩)
   go_ret
   refine ⟨ao,_,_,rfl,rfl,Nat.le_refl _,?_,?_,(Xo0 HB)⟩
   ·have:=trim_len (halves ws)
    rw[halves_len,HN.out] at this
    omega
   ·have h2:=HRD.out
    rw[<-HLE.out] at h2
    exact h2
theorem Q6i {α:Type} (l:List α) (i:Nat) (m:α) (h:l[i]?=some m):l.drop i=m::l.drop (i+1):=by
 obtain ⟨hi,rfl⟩:=List.getElem?_eq_some_iff.1 h
 exact List.drop_eq_getElem_cons hi
end Go.Proofs.YtdilmfakkppgpaaGreatDoor
