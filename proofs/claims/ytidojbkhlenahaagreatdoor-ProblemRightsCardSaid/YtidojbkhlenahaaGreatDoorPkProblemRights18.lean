/- Part 18. No condition. -/
import Derived.RangeFuncBox
import Derived.Shelf.Abstract
import Derived.Shelf.RegionOpen
import Derived.TacticsInMore
import Derived.LoopNIn
import Derived.LoopIn
import Derived.Laws.EntriesVeiled
import Derived.Lib.IndexBytes
import Derived.Shelf.Strings.SlTrimAscii
import Derived.Lib.Atoi
import Derived.Test.YtidojbkhlenahaaGreatDoorPkProblemRights17
set_option maxRecDepth 100000
set_option maxHeartbeats 16000000
namespace Go.Proofs.YtidojbkhlenahaaGreatDoor
open Go.RowKit Go.Shelf WordsM DecM
attribute [local go_sem] Oper.semAt_some
theorem Qdt (b:UInt8):∀l:LU,(Lib.indexByte l b= -1/\Qeb b l=none)∨(∃N:Nat,Lib.indexByte l b=(N:Int)/\Qeb b l=some (l.take N,l.drop (N+1))/\N<l.length)
 |[]=>.inl ⟨rfl,rfl⟩
 |c::r=>by
  simp only[Qeb,Lib.indexByte]
  by_cases h:c=b
  ·right
   subst h;exact ⟨0,by simp,by simp,by simp⟩
  ·have h1:(c==b)=false:=(by rw[Uj];exact h);rw[h1,Us h];rcases Qdt b r with ⟨h2,h3⟩|⟨N,h2,h3,h4⟩
   ·left
    rw[h2,h3];exact ⟨rfl,rfl⟩
   ·right
    have h5:(Lib.indexByte r b== -1)=false:=(by rw[Uj];omega);rw[h5,h3];exact ⟨N+1,by simp only[Tf,Xag];omega,by simp,by simp;omega⟩
def Qzl (w:World) (s:ByteArray) (e:Ending) (w':World):Prop:=
 e=.returned (.func (.func 123) #[] #[.pointer (some ⟨w.heap.size,0,none⟩)])/\w'.cell? ⟨w.heap.size,0,none⟩=some (.string s)/\Bw w w'/\w.heap.size<w'.heap.size
theorem Qpi (s:ByteArray) (w:World):Calls Tryz.prog 82 #[.string s] w (Qzl w s):=by
 have Z0:Bw w (w.alloc (.cells #[.string s] 9)):=Ba;have u6:(w.alloc (.cells #[.string s] 9)).cell? ⟨w.heap.size,0,none⟩=some (.string s):=by rw[Uw _ _ _ _ _ _ (Uo _ _)];rfl
 go_enter Tryz.func82,Tryz.ntmps82
 go_wp2_with fail
 go_ret;exact ⟨rfl,u6,Z0,by simp⟩
structure LnP where
 at_:Nat
 t:ByteArray
def LnP.encs (r:LnP):Array Value:= #[.int .i64 (r.at_:Int),.string r.t]
def Qq2 (pre:List LnP):Nat:=match pre.getLast? with|none=>0|some x=>x.at_+x.t.size+1
theorem Qjq (pre:List LnP) (x:LnP):Qq2 (pre++[x])=x.at_+x.t.size+1:=by unfold Qq2;simp
def Qy2 (s:ByteArray) (pre:List LnP) (r:LnP):Prop:=r.at_=Qq2 pre/\r.at_+r.t.size<s.size/\Q85 s.data.toList r.at_=some r.t.data.toList
theorem Qt7 (n:Nat) (A5:1<=n) (l Bx B2:Nat) (s:ByteArray) (hm:s.size<=1000000) (J Jx:List LnP->World->Prop) (W:World)
 (_hJ:AbidesFrom W.heap.size J)
 (hY:∀pre x W1,J pre W1->Qy2 s pre x->YieldAt Fence.wide (n-1) Tryz.prog l (LnP.encs x) W1 fun e W'=>
   (e=.returned (.bool true)/\J (pre++[x]) W'/\Q71 Bx B2 W1 W')∨(e=.returned (.bool false)/\Jx (pre++[x]) W'))
 (K1:W.cell? ⟨Bx,0,none⟩=some (.string s)) (hB:Bx<B2) (_hB2:B2<=W.heap.size) (h0:J [] W):
 CallsIn Fence.wide n Tryz.prog 123 #[.func (.yield l) #[] #[],.pointer (some ⟨Bx,0,none⟩)] W fun e W'=>(∃v,e=.returned v)/\
  ((∃ys,(Q85 s.data.toList (Qq2 ys)=none/\Qq2 ys<=s.size)/\J ys W')∨(∃pre,True/\Jx pre W')):=by
 refine callsIn_of_wp Tryz.func123 rfl trivial ?_ rfl;simp only[Tryz.ntmps123,Xbi,Um,UP,Nat.reduceAdd,Nat.reduceSub,Array.replicate_succ,Array.replicate_zero,List.push_toArray,List.append_toArray,TC,To]
 gi_wp2
 gi_loopw [3] (fun v wr=>∃(p:Nat) (pre:List LnP),v=.int .i64 p/\p<=s.size/\Qq2 pre=p/\J pre wr/\Q71 Bx B2 W wr) (fun v _=>s.size-(intOf v).toNat)
 case atStart=>exact ⟨0,[],rfl,Ut _,rfl,h0,Q71.refl _ _ _⟩
 case round=>
  obtain ⟨p,pre,rfl,hp,S3,hJs,Y0⟩:=hrel;have hc:=(UR (w:=W) (w':=wr) (a:=⟨Bx,0,none⟩) (Y0.2 Bx (Uf _) hB)).trans K1;have HE:=Ua S3;clear K1 h0 S3;have KQ:(p:Int)<=(s.size:Int):=by omega
  have hD:(s.extract p s.size).data.toList=s.data.toList.drop p:=Lib.extract_to_end s p;have K0:(s.data.toList.drop p).length=s.size-p:=by rw[Tu];rfl
  obtain ⟨I,hI⟩:∃I,Lib.indexByte (s.extract p s.size).data.toList (10:Int).toNat.toUInt8=I:=⟨_,rfl⟩;have Jc:Lib.indexByte (s.data.toList.drop p) 10=I:=by rw[<-hI,hD];rfl
  have hci:=Qdt 10 (s.data.toList.drop p);rw[Jc] at hci;rcases hci with ⟨hi,WY⟩|⟨N,hi,hcut,hNl⟩
  ·subst hi;have i4:Q85 s.data.toList p=none:=(by unfold Q85;rw[WY];rfl);have HN:=Xh3 i4 hJs Y0;clear hD K0 Jc hY hJs Y0 WY i4
   gi_wp2_with fail
   refine ⟨trivial,?_⟩;refine (callsIn_wide.2 (Tryz.J0r (s.extract p s.size) 10 wr)).mono ?_;rintro e w2 ⟨rfl,rfl⟩;rw[hI]
   gi_wp2_with fail
   refine ⟨(by intro f h;cases h),?_⟩
   gi_wp2_with fail
   exact ⟨rfl,_,by simp[results,go_sem];rfl,⟨_,rfl⟩,.inl ⟨pre,⟨by rw[HE.out];exact (Xo0 HN),by rw[HE.out];exact hp⟩,(Xo1 HN)⟩⟩
  ·subst hi;have Wu:p+N<s.size:=(by omega);have Y1:(s.extract p (p+N)).size=N:=(by rw[ByteArray.size_extract];omega);have O1:Qy2 s pre ⟨p,s.extract p (p+N)⟩:=⟨HE.out.symm,by rw[Y1];exact Wu,by
    show Q85 s.data.toList p=some (s.extract p (p+N)).data.toList
    unfold Q85;rw[hcut,Lib.extract_data]
    show some (List.take N _)=some _
    congr 2;omega⟩
   obtain ⟨fn,tmps,assign,body,hy,hR⟩:=hY pre ⟨p,s.extract p (p+N)⟩ wr hJs O1;simp only[LnP.encs] at hy;have HP:=Xh2 Wu Y1;have Jw:=Ua Y0;obtain ⟨M,hM⟩:∃M,p+N=M:=⟨_,rfl⟩;have hpM:(p:Int)+(N:Int)=(M:Int):=(by omega);have hpM1:(p:Int)<=(M:Int):=(by omega);have hpM2:(M:Int)<=(s.size:Int):=(by omega);have Kq:¬((N:Int)<0):=(by omega);rw[hM] at hy HP hR;have hM2:(p:Int)+((N:Int)+1)=((M+1:Nat):Int):=(by omega);have HM2:=Ua hM;clear hD K0 Jc hY hJs Y0 hcut Y1 O1 hNl Wu hM
   gi_wp2_with fail
   refine ⟨trivial,?_⟩;refine (callsIn_wide.2 (Tryz.J0r (s.extract p s.size) 10 wr)).mono ?_;rintro e w2 ⟨rfl,rfl⟩;rw[hI]
   gi_wp2_with fail
   refine hR.mono ?_;rintro e W3 (⟨rfl,hJ3,QW⟩|⟨rfl,hJx3⟩)
   ·gi_wp2
    go_roundw
    case rel=>exact ⟨M+1,pre++[⟨p,s.extract p M⟩],by go_num,(Xo0 HP),by rw[Qjq];show p+(s.extract p M).size+1=_;rw[(Xe1 HP),HM2.out],hJ3,Jw.out.trans QW⟩
    case measure=>
     have q1:=(Xo0 HP);have q2:=HM2.out;simp[intOf];omega
   ·gi_wp2
    exact ⟨rfl,_,by simp[results,go_sem];rfl,⟨_,rfl⟩,.inr ⟨_,trivial,hJx3⟩⟩
theorem Qjr (n:Nat) (A5:1<=n) (Bx:Nat) (s:ByteArray) (hm:s.size<=1000000) (w:World)
 (K1:w.cell? ⟨Bx,0,none⟩=some (.string s)) (hB:Bx<w.heap.size):
 Qzk Fence.wide n Tryz.prog 123 #[.pointer (some ⟨Bx,0,none⟩)] LnP.encs (fun pre x _=>Qy2 s pre x) (Q71 Bx w.heap.size) (fun ys=>Q85 s.data.toList (Qq2 ys)=none/\Qq2 ys<=s.size) (fun _=>True) w:=
 fun l J Jx W hW hJ _ hY h0=>Qt7 n A5 l Bx w.heap.size s hm J Jx W hJ hY ((hW.cell (p:=⟨Bx,0,none⟩) hB).trans K1) hB hW.size h0
end Go.Proofs.YtidojbkhlenahaaGreatDoor
namespace Go.Proofs.YtidojbkhlenahaaGreatDoor
open Go.RowKit WordsM DecM
theorem Qh1 (w l:LU):Q5p w l=if Lib.hasPrefix l (w++[32])=true then some (Lib.trimPrefix l (w++[32])) else none:=by
 unfold Q5p Lib.trimPrefix Lib.hasPrefix
 by_cases h:(w++[32]).isPrefixOf l=true
 ·rw[Uu h,Uu h,Uu h];simp
 ·rw[Us h,Us h]
def Qt8:LU:=[48,49,50,51,52,53,54,55,56,57]
theorem Qh2:∀c:UInt8,Qt8.contains c=true↔48<=c.toNat/\c.toNat<=57:=by
 intro c;have h:Qt8.contains c=true↔c∈Qt8:=by simp
 rw[h];unfold Qt8;simp only[UG,Xa6,or_false,<-Xa1];simp only[UInt8.reduceToNat];omega
theorem Qdu:∀l:LU,digN l=l.length↔∀c∈l,48<=c.toNat/\c.toNat<=57
 |[]=>by simp[digN]
 |c::r=>by
  have ih:=Qdu r;have B5:=Qch r;simp only[digN,Um,UG,forall_eq_or_imp]
  by_cases h:48<=c.toNat/\c.toNat<=57
  ·rw[Uu h]
   constructor
   ·intro e;exact ⟨h,ih.1 (by omega)⟩
   ·intro e;rw[ih.2 e.2]
  ·rw[Us h]
   constructor
   ·intro e;omega
   ·intro e;exact absurd e.1 h
theorem Qc3 {p:UInt8->Bool}:∀l:LU,l.dropWhile p=[]↔∀c∈l,p c=true
 |[]=>by simp
 |c::r=>by
  rw[List.dropWhile_cons]
  by_cases h:p c=true
  ·rw[Uu h,Qc3 r];simp[h]
  ·rw[Us h];simp[h]
theorem Qly (t:LU):Lib.trimS t Qt8=[]↔digN t=t.length:=by
 unfold Lib.trimS Lib.trimRightS Lib.trimLeftS;rw[Qc3,Qdu]
 constructor
 ·intro h;have h1:t.reverse.dropWhile (fun x=>Qt8.contains x)=[]:=by
   cases hd:t.reverse.dropWhile (fun x=>Qt8.contains x) with
   |nil=>rfl
   |cons x r=>
    have h2:=List.head?_dropWhile_not (fun x=>Qt8.contains x) t.reverse;rw[hd] at h2;have h3:=h x (by rw[hd];simp);simp only[List.head?_cons] at h2;rw[h3] at h2;cases h2
  exact fun c hc=>(Qh2 c).1 ((Qc3 t.reverse).1 h1 c (List.mem_reverse.2 hc))
 ·intro h c hc;have h2:t.reverse.dropWhile (fun x=>Qt8.contains x)=[]:=(Qc3 _).2 fun x hx=>(Qh2 x).2 (h x (List.mem_reverse.1 hx));rw[h2] at hc;simp at hc
theorem Qne:∀(l:LU) (a:Nat),(∀c∈l,48<=c.toNat/\c.toNat<=57)->Lib.decFrom a l=some (l.foldl (fun a b=>10*a+(b.toNat-48)) a)
 |[],a,_=>rfl
 |c::r,a,h=>by
  have h1:=h c (Xad ..);rw[Lib.decFrom,Lib.digitVal,Uu h1,Xbg]
  show Lib.decFrom (a*10+(c.toNat-48)) r=_
  rw[Qne r _ fun x hx=>h x (Xaa _ hx),UA]
theorem Qpj {t:LU} {n:Nat} (h:Q2t t=some n):Lib.atoi t=some (n:Int):=by
 unfold Q2t at h
 split at h
 ·rename_i hc;injection h with h;obtain ⟨h1,h2,h3,h4⟩:=hc;have hd:=(Qdu t).1 h4;cases t with
  |nil=>simp at h1
  |cons c r=>
   have hc:=hd c (Xad ..);have e1:(c==45)=false:=(by rw[Uj];intro e;subst e;exact absurd hc.1 (by decide));have e2:(c==43)=false:=(by rw[Uj];intro e;subst e;exact absurd hc.1 (by decide));rw[Lib.atoi,e1,e2];simp only[Tf,Xag];rw[Lib.decNat,show (c::r).isEmpty=false from rfl];simp only[Tf,Xag];rw[Qne _ _ hd,<-h];rfl
 ·cases h
def Q6j (w:World) (g o:Nat) (X:Option Nat) (r:Ending) (w':World):Prop:=match X with
 |none=>r=.returned (.bool false)/\Bw w w'
 |some n=>r=.returned (.bool true)/\∃w1,Bw w w1/\w'=w1.setCell ⟨g,o,none⟩ (.int .i64 (n:Int))
theorem Q6j.no {w:World} {g o:Nat} {X:Option Nat} {w':World} (h:X=none) (hb:Bw w w'):Q6j w g o X (.returned (.bool false)) w':=by subst h;exact ⟨rfl,hb⟩
theorem Q6j.yes {w w1:World} {g o n:Nat} {X:Option Nat} (h:X=some n) (hb:Bw w w1):Q6j w g o X (.returned (.bool true)) (w1.setCell ⟨g,o,none⟩ (.int .i64 (n:Int))):=by subst h;exact ⟨rfl,w1,hb,rfl⟩
theorem Qpk:∀(j:Nat) (b:UInt8),(⟨#[48,49,50,51,52,53,54,55,56,57]⟩:ByteArray).data.toList[j]?=some b->b.toNat<128:=by
 intro j b h;have h1:b∈Qt8:=Ug h;have h2:=(Qh2 b).1 (by simpa using h1);omega
theorem Qpl (s:ByteArray) (wd:LU) (g o:Nat) (v0:Value) (w:World) (hs:s.size<=1000000) (hw:wd.length<=100) (hc:w.cell? ⟨g,o,none⟩=some v0) (hf:w.frozen? ⟨g,o,none⟩=false):
 Calls Tryz.prog 125 #[.string s,.string ⟨wd.toArray⟩,.pointer (some ⟨g,o,none⟩)] w (Q6j w g o ((Q5p wd s.data.toList).bind Q2t)):=by
 have hg:=UI hc;obtain ⟨p,hp⟩:∃p:ByteArray,(⟨wd.toArray⟩:ByteArray)++⟨#[32]⟩=p:=⟨_,rfl⟩;have x7:p.data.toList=wd++[32]:=by rw[<-hp,UJ];simp
 have Zx:¬9223372036854775807<wd.length+1:=by omega
 have Zd:=Tryz.J0v s p w;rw[x7] at Zd;have hr:=Qh1 wd s.data.toList;obtain ⟨t,ht⟩:∃t,Lib.trimPrefix s.data.toList (wd++[32])=t:=⟨_,rfl⟩;obtain ⟨b,hb⟩:∃b,Lib.hasPrefix s.data.toList (wd++[32])=b:=⟨_,rfl⟩;have S5:t.length<=1000000:=by
  rw[<-ht];unfold Lib.trimPrefix;have:s.data.toList.length=s.size:=(Lib.size_eq s).symm
  split
  ·rw[Tu];omega
  ·omega
 rw[ht,hb] at Zd;rw[ht,hb] at hr;rw[hr];have HC:=Xh3 Zd hc hf;clear hr Zd x7 ht hb hc hf;cases b
 case false=>
  go_enter Tryz.func125,Tryz.ntmps125
  go_wp2_with (go_at_call 173;first|rw[hp]|skip;refine (Xo0 HC).mono ?_;rintro e w1 ⟨rfl,rfl⟩)
  go_ret;exact Q6j.no rfl (Uc _ _)
 cases t with
 |nil=>
  go_enter Tryz.func125,Tryz.ntmps125
  go_wp2_with (go_at_call 173;first|rw[hp]|skip;refine (Xo0 HC).mono ?_;rintro e w1 ⟨rfl,rfl⟩)
  go_ret;exact Q6j.no (by decide) (Uc _ _)
 |cons c r=>
 have i5:¬((r.length:Int)+1<1):=by omega
 by_cases h4:r.length+1<=4
 case neg=>
  have Jq:(4:Int)<(r.length:Int)+1:=by omega
  have HX:=Ua (show Q2t (c::r)=none by unfold Q2t;rw[Us];intro h;have:=h.2.1;rw[Um] at this;omega)
  go_enter Tryz.func125,Tryz.ntmps125
  go_wp2_with (go_at_call 173;first|rw[hp]|skip;refine (Xo0 HC).mono ?_;rintro e w1 ⟨rfl,rfl⟩)
  go_ret;exact Q6j.no (by show Q2t (c::r)=none;exact HX.out) (Uc _ _)
 have Jq:¬((4:Int)<(r.length:Int)+1):=by omega
 by_cases h0:c=48
 case pos=>
  subst h0;have HX:=Ua (show Q2t ((48:UInt8)::r)=none by unfold Q2t;rw[Us];intro h;exact h.2.2.1 rfl)
  go_enter Tryz.func125,Tryz.ntmps125
  go_wp2_with (go_at_call 173;first|rw[hp]|skip;refine (Xo0 HC).mono ?_;rintro e w1 ⟨rfl,rfl⟩)
  go_ret;exact Q6j.no (by show Q2t ((48:UInt8)::r)=none;exact HX.out) (Uc _ _)
 have hc48:((c.toNat:Int)==48)=false:=by
  rw[Uj];intro e;exact h0 (Xa1.1 (by show c.toNat=48;omega))
 have hc49:¬((((⟨(c::r).toArray⟩:ByteArray)[0]'(by show 0<(c::r).length;rw[Um];omega)).toNat:Int)=48):=by
  show¬((c.toNat:Int)=48)
  intro e;exact h0 (Xa1.1 (by show c.toNat=48;omega))
 have QK:=fun W=>Any.strings_Trim_laid Tryz.J0l (by kernel_rfl) ⟨(c::r).toArray⟩ ⟨#[48,49,50,51,52,53,54,55,56,57]⟩ W (by show (c::r).length<=_;rw[Um];omega) (by decide) Qpk;obtain ⟨Z,hZ⟩:∃Z,Lib.trimS (c::r) Qt8=Z:=⟨_,rfl⟩;have htr2:∀W,Calls Tryz.prog 174 #[.string ⟨(c::r).toArray⟩,.string ⟨#[48,49,50,51,52,53,54,55,56,57]⟩] W fun e w'=>e=.returned (.string ⟨Z.toArray⟩)/\Bw W w':=fun W=>by rw[<-hZ];exact QK W
 have hz:=Qly (c::r);rw[hZ] at hz;have HT:=Ua htr2;clear QK htr2 hZ;cases Z with
 |cons y ys=>
  have HX:=Ua (show Q2t (c::r)=none by unfold Q2t;rw[Us];intro h;exact absurd (hz.2 h.2.2.2) (by simp));clear hz
  go_enter Tryz.func125,Tryz.ntmps125
  go_wp2_with (first
   |(go_at_call 173;first|rw[hp]|skip;refine (Xo0 HC).mono ?_;rintro e w1 ⟨rfl,rfl⟩)
   |(go_at_call 174;refine (HT.out _).mono ?_;rintro e w2 ⟨rfl,D0⟩;have H2:=Ua D0;clear D0))
  go_ret;exact Q6j.no (by show Q2t (c::r)=none;exact HX.out) H2.out
 |nil=>
  have R2:Q2t (c::r)=some (dv (c::r)):=by unfold Q2t;rw[Uu ⟨by rw[Um];omega,by rw[Um];omega,h0,hz.1 rfl⟩]
  have R1:=fun W=>Tryz.J12 ⟨(c::r).toArray⟩ (dv (c::r)) (by show (c::r).length<=_;rw[Um];omega) (Qpj R2) W;obtain ⟨n,hn⟩:∃n,dv (c::r)=n:=⟨_,rfl⟩;rw[hn] at R2;simp only[hn] at R1;have HX:=Xh2 R2 R1;have HG:=Ua hg;clear hz R2 R1 hn hg
  go_enter Tryz.func125,Tryz.ntmps125
  go_wp2_with (first
   |(go_at_call 173;first|rw[hp]|skip;refine (Xo0 HC).mono ?_;rintro e w1 ⟨rfl,rfl⟩)
   |(go_at_call 174;refine (HT.out _).mono ?_;rintro e w2 ⟨rfl,D0⟩;have H2:=Ua D0;clear D0)
   |(go_at_call 175;refine ((Xe1 HX) _).mono ?_;rintro e w3 ⟨rfl,tt,XO⟩
     have I0:Bw w2 w3:=(by rw[XO];exact Lib.bytesWorld_below _ _ _);have VM:=Below.next0 H2.out I0;have x0:=(VM.cell (p:=⟨g,o,none⟩) HG.out).trans (Xo1 HC);have f0:=(VM.frozen (p:=⟨g,o,none⟩) HG.out).trans (Xe2 HC);have H3:=Ua VM;clear I0 VM XO))
  ·exfalso;rename_i hx;rcases hx with hx|hx
   ·omega
   ·exact hc49 (beq_iff_eq.1 hx)
  go_ret;exact Q6j.yes (by show Q2t (c::r)=some n;exact (Xo0 HX)) H3.out
def Q36 (w:World) (g o:Nat) (n:Bool) (e:Int) (v:Value):World:=((w.setCell ⟨g,o,none⟩ (.bool n)).setCell ⟨g,o+1,none⟩ (.int .i64 e)).setCell ⟨g,o+2,none⟩ v
def J05 (w:World) (R:Nat) (p:Nat) (g o:Nat) (ov:Int) (S:LU) (r:Ending) (w':World):Prop:=
 ∃n e a l c L er w1,r=.returned (.bool (er != 5))/\Q14 S n e L er/\Bw w w1/\WordsIn w1 a l c L/\
  w'=Q36 (if er=2/\ov<0 then w1.setCell ⟨R,14,none⟩ (.int .i64 (p:Int)) else w1) g o n e (.slice a l c)
structure Q37 (w:World) (g o:Nat):Prop where
 c0:∃v,w.cell? ⟨g,o,none⟩=some v
 c1:∃v,w.cell? ⟨g,o+1,none⟩=some v
 c2:∃v,w.cell? ⟨g,o+2,none⟩=some v
 f0:w.frozen? ⟨g,o,none⟩=false
 f1:w.frozen? ⟨g,o+1,none⟩=false
 f2:w.frozen? ⟨g,o+2,none⟩=false
theorem Q37.lt {w:World} {g o:Nat} (h:Q37 w g o):g<w.heap.size:=by obtain ⟨v,hv⟩:=h.c0;exact UI hv
theorem Q37.step {w w':World} {g o B:Nat} (h:Q37 w g o) (hb:Below B w w') (hB:g<B):Q37 w' g o:=by
 obtain ⟨v0,h0⟩:=h.c0;obtain ⟨v1,h1⟩:=h.c1;obtain ⟨v2,h2⟩:=h.c2;exact ⟨⟨v0,(hb.cell (p:=⟨g,o,none⟩) hB).trans h0⟩,⟨v1,(hb.cell (p:=⟨g,o+1,none⟩) hB).trans h1⟩,⟨v2,(hb.cell (p:=⟨g,o+2,none⟩) hB).trans h2⟩,(hb.frozen (p:=⟨g,o,none⟩) hB).trans h.f0,(hb.frozen (p:=⟨g,o+1,none⟩) hB).trans h.f1,(hb.frozen (p:=⟨g,o+2,none⟩) hB).trans h.f2⟩
theorem Q37.set {w:World} {g o R i:Nat} (h:Q37 w g o) (P0:R≠g∨o+2<i) (v:Value):Q37 (w.setCell ⟨R,i,none⟩ v) g o:=by
 obtain ⟨v0,h0⟩:=h.c0;obtain ⟨v1,h1⟩:=h.c1;obtain ⟨v2,h2⟩:=h.c2;have hd:∀k,k<=o+2->(⟨g,k,none⟩:Addr)≠⟨R,i,none⟩:=fun k hk e=>by injection e with e1 e2;omega
 refine ⟨⟨v0,(Ud _ _ _ _ ?_).trans h0⟩,⟨v1,(Ud _ _ _ _ ?_).trans h1⟩,⟨v2,(Ud _ _ _ _ ?_).trans h2⟩,by rw[Un];exact h.f0,by rw[Un];exact h.f1,by rw[Un];exact h.f2⟩
 all_goals first|exact hd _ (by omega)|exact (hd _ (by omega)).symm
theorem Q37.stores {w:World} {g o:Nat} (h:Q37 w g o) (n:Bool) (e:Int):(∃v,w.cell? ⟨g,o,none⟩=some v)/\(∃v,(w.setCell ⟨g,o,none⟩ (.bool n)).cell? ⟨g,o+1,none⟩=some v)/\(∃v,((w.setCell ⟨g,o,none⟩ (.bool n)).setCell ⟨g,o+1,none⟩ (.int .i64 e)).cell? ⟨g,o+2,none⟩=some v):=by
 obtain ⟨v1,h1⟩:=h.c1;obtain ⟨v2,h2⟩:=h.c2;exact ⟨h.c0,⟨v1,(Ud _ _ _ _ (by simp)).trans h1⟩,⟨v2,(Ud _ _ _ _ (by simp)).trans ((Ud _ _ _ _ (by simp)).trans h2)⟩⟩
theorem Q5x (R p g o:Nat) (ov:Int) (s:ByteArray) (w:World) (hs:s.size<=1000000) (hT:Q1s w) (hR:w.cell? ⟨R,14,none⟩=some (.int .i64 ov)) (hf:w.frozen? ⟨R,14,none⟩=false) (hN:Q37 w g o) (P0:R≠g∨o+2<14):
 Calls Tryz.prog 176 #[.pointer (some ⟨R,0,none⟩),.int .i64 (p:Int),.string s,.pointer (some ⟨g,o,none⟩)] w (J05 w R p g o ov s.data.toList):=by
 have hlR:=UI hR;have hp:=Qj0 s w (by omega) hT;have HP:=Xh6 hp hR hf hN hlR hN.lt;clear hp hR hf hN hlR hT
 go_enter Tryz.func176,Tryz.ntmps176
 go_upto_region 2 with (go_at_call 235;refine (Xo0 HP).mono ?_;rintro r w1 ⟨n,e,a,l,c,L,er,rfl,P6,S6,hb⟩;have H1:=Xh3 P6 S6 hb;clear P6 S6 hb)
 have P3:Bw w1 (w1.alloc (.cells #[.bool n,.int .i64 e,.slice a l c] 26)):=Ba;have K1:=Q03.new w1 (.bool n) (.int .i64 e) (.slice a l c) 26;have E0:=Q0p w1 (.cells #[.bool n,.int .i64 e,.slice a l c] 26);have A0:=Below.next0 (Xe2 H1) P3;have M5:=(A0.cell (p:=⟨R,14,none⟩) (Xo4 HP)).trans (Xo1 HP);have j5:=(A0.frozen (p:=⟨R,14,none⟩) (Xo4 HP)).trans (Xo2 HP);have X6:=(Xo3 HP).step A0 (Xe5 HP);have Xv:=(Xo1 H1).step P3;obtain ⟨z0,z1,z2⟩:=K1.cc;have hRb:R≠w1.heap.size:=by have:=(Xo4 HP);have:=(Xe2 H1).size;omega
 generalize w1.alloc (.cells #[.bool n,.int .i64 e,.slice a l c] 26)=W1 at*
 by_cases h2:er=2/\ov<0
 ·obtain ⟨rfl,Wv⟩:=h2;have hM:=X6.set P0 (.int .i64 (p:Int));obtain ⟨⟨s0,q0⟩,⟨s1,q1⟩,⟨s2,q2⟩⟩:=hM.stores n e;have g0:=hM.f0;have g1:=hM.f1;have g2:=hM.f2;have d:∀i,(W1.setCell ⟨R,14,none⟩ (.int .i64 (p:Int))).cell? ⟨w1.heap.size,i,none⟩=W1.cell? ⟨w1.heap.size,i,none⟩:=fun i=>Ud _ _ _ _ (by intro e;injection e with e1 e2;exact hRb e1);have y0:=(d 0).trans z0;have y1:=(d 1).trans z1;have y2:=(d 2).trans z2;have HX:=Xh2 Xv A0;clear hM d Xv A0 P3 X6 K1
  go_wp2_with fail
  go_ret;exact ⟨n,e,a,l,c,L,2,W1,rfl,(Xo0 H1),(Xe1 HX),(Xo0 HX),by rw[Uu ⟨rfl,Wv⟩];rfl⟩
 ·obtain ⟨⟨s0,q0⟩,⟨s1,q1⟩,⟨s2,q2⟩⟩:=X6.stores n e;have g0:=X6.f0;have g1:=X6.f1;have g2:=X6.f2;have HX:=Xh3 Xv A0 h2
  by_cases he:er=2
  ·have Wv:¬ov<0:=fun h=>h2 ⟨he,h⟩;subst he;clear Xv A0 P3 X6 K1 h2
   go_wp2_with fail
   go_ret;exact ⟨n,e,a,l,c,L,2,W1,rfl,(Xo0 H1),(Xo1 HX),(Xo0 HX),by rw[Us (fun h=>by have:=h.2;omega)];rfl⟩
  ·have XM:(er==2)=false:=(by rw[Uj];exact he);clear Xv A0 P3 X6 K1 h2
   go_wp2_with fail
   go_ret;exact ⟨n,e,a,l,c,L,er,W1,by simp[go_sem],(Xo0 H1),(Xo1 HX),(Xo0 HX),by rw[Us (Xe2 HX)];rfl⟩
def Qt9 (w:World) (R p g o:Nat) (ov:Int) (X:Option (LU)) (r:Ending) (w':World):Prop:=match X with
 |none=>r=.returned (.bool false)/\w'=w
 |some t=>J05 w R p g o ov t r w'
theorem Qlz (R p g o:Nat) (ov:Int) (s:ByteArray) (wd:LU) (w:World) (hs:s.size<=1000000) (hw:wd.length<=100) (hT:Q1s w) (hR:w.cell? ⟨R,14,none⟩=some (.int .i64 ov)) (hf:w.frozen? ⟨R,14,none⟩=false) (hN:Q37 w g o) (P0:R≠g∨o+2<14):
 Calls Tryz.prog 126 #[.pointer (some ⟨R,0,none⟩),.int .i64 (p:Int),.string s,.string ⟨wd.toArray⟩,.pointer (some ⟨g,o,none⟩)] w (Qt9 w R p g o ov (Q5p wd s.data.toList)):=by
 obtain ⟨q,hp⟩:∃q:ByteArray,(⟨wd.toArray⟩:ByteArray)++⟨#[32]⟩=q:=⟨_,rfl⟩;have x7:q.data.toList=wd++[32]:=by rw[<-hp,UJ];simp
 have Zx:¬9223372036854775807<wd.length+1:=by omega
 have Zd:=Tryz.J0v s q w;rw[x7] at Zd;have hr:=Qh1 wd s.data.toList;obtain ⟨t,ht⟩:∃t,Lib.trimPrefix s.data.toList (wd++[32])=t:=⟨_,rfl⟩;obtain ⟨b,hb⟩:∃b,Lib.hasPrefix s.data.toList (wd++[32])=b:=⟨_,rfl⟩;have S5:t.length<=1000000:=by
  rw[<-ht];unfold Lib.trimPrefix;have:s.data.toList.length=s.size:=(Lib.size_eq s).symm
  split
  ·rw[Tu];omega
  ·omega
 rw[ht,hb] at Zd;rw[ht,hb] at hr;rw[hr];have hnu:=Q5x R p g o ov ⟨t.toArray⟩ w S5 hT hR hf hN P0;have HC:=Xh2 Zd hnu;clear hr Zd x7 ht hb hnu hT hR hf hN P0 S5;cases b
 ·go_enter Tryz.func126,Tryz.ntmps126
  go_wp2_with (go_at_call 173;first|rw[hp]|skip;refine (Xo0 HC).mono ?_;rintro e w1 ⟨rfl,rfl⟩)
  go_ret;exact ⟨rfl,rfl⟩
 ·go_enter Tryz.func126,Tryz.ntmps126
  go_wp2_with (first
   |(go_at_call 173;first|rw[hp]|skip;refine (Xo0 HC).mono ?_;rintro e w1 ⟨rfl,rfl⟩)
   |(go_at_call 176;refine (Xe1 HC).mono ?_;rintro e w2 ⟨n,x,a,l,c,L,er,w3,rfl,x5⟩;have H2:=Ua x5;clear x5))
  go_ret;exact ⟨n,x,a,l,c,L,er,w3,rfl,H2.out⟩
def Qy3 (s:ByteArray) (e:Ending):Prop:=match Qeb 32 s.data.toList with
 |none=>e=.returned (.tuple #[.string s,.string ⟨#[]⟩,.bool false])
 |some p=>e=.returned (.tuple #[.string ⟨p.1.toArray⟩,.string ⟨p.2.toArray⟩,.bool true])
theorem Qnf (s:ByteArray) (a b:Nat) (l:LU) (h:(s.data.toList.drop a).take (b-a)=l):s.extract a b=⟨l.toArray⟩:=by
 apply ByteArray.ext
 apply Array.ext'
 rw[Lib.extract_data,h]
theorem Qta (s:ByteArray) (w:World) (hs:s.size<=1000000):Calls Tryz.prog 236 #[.string s,.string ⟨#[32]⟩] w fun e w'=>Qy3 s e/\Bw w w':=by
 have hix:=Tryz.J1y s 32 w;have hci:=Qdt 32 s.data.toList;have Ql:s.data.toList.length=s.size:=(Lib.size_eq s).symm;obtain ⟨I,hI⟩:∃I,Lib.indexByte s.data.toList 32=I:=⟨_,rfl⟩;rw[hI] at hix hci;have HI:=Ua hix;clear hix hI;rcases hci with ⟨rfl,hn⟩|⟨N,rfl,hn,hN⟩
 ·have HN:=Ua hn;clear hn
  go_enter Tryz.func236,Tryz.ntmps236
  go_wp2_with (go_at_call 237;refine HI.out.mono ?_;rintro e w1 ⟨rfl,rfl⟩)
  refine ⟨rfl,.tuple #[.string s,.string ⟨#[]⟩,.bool false],by simp[results,go_sem],?_,Uc _ _⟩;unfold Qy3;rw[HN.out]
 ·have h1:(N:Int)<=(s.size:Int):=by omega
  have h2:(N:Int)+1<=(s.size:Int):=by omega
  have e1:=Qnf s 0 N (s.data.toList.take N) (by simp);have e2:=Qnf s (N+1) s.size (s.data.toList.drop (N+1)) (by rw[Uz];rw[Tu];omega);have HN:=Xh3 hn e1 e2;clear hn Ql e1 e2
  go_enter Tryz.func236,Tryz.ntmps236
  go_upto_region 3 with (go_at_call 237;refine HI.out.mono ?_;rintro e w1 ⟨rfl,rfl⟩)
  go_quiet (fail)
  go_wp2_with fail
  refine ⟨rfl,.tuple #[.string (s.extract 0 N),.string (s.extract (N+1) s.size),.bool true],by simp[results,go_sem],?_,Q52 (Uc _ _) _⟩;unfold Qy3;rw[(Xo0 HN),(Xo1 HN),(Xe2 HN)]
theorem Qvu (s:ByteArray) (w:World) (hs:s.size<=1000000):Calls Tryz.prog 177 #[.string s,.string ⟨#[32]⟩] w fun e w'=>Qy3 s e/\Bw w w':=by
 have h:=Qta s w hs;unfold Qy3 at h⊢;cases hc:Qeb 32 s.data.toList with
 |none=>
  rw[hc] at h;have H:=Ua h;clear h hc
  go_enter Tryz.func177,Tryz.ntmps177
  go_wp2_with (go_at_call 236;refine H.out.mono ?_;rintro e w1 ⟨rfl,hb⟩)
  exact ⟨rfl,.tuple #[.string s,.string ⟨#[]⟩,.bool false],by simp[results,go_sem],rfl,hb⟩
 |some p=>
  rw[hc] at h;have H:=Ua h;clear h hc
  go_enter Tryz.func177,Tryz.ntmps177
  go_wp2_with (go_at_call 236;refine H.out.mono ?_;rintro e w1 ⟨rfl,hb⟩)
  exact ⟨rfl,.tuple #[.string ⟨p.1.toArray⟩,.string ⟨p.2.toArray⟩,.bool true],by simp[results,go_sem],rfl,hb⟩
structure Blk (w:World) (b:Nat) (vs:LV):Prop where
 c:Q3h w b vs
 f:∀i,i<vs.length->w.frozen? ⟨b,i,none⟩=false
 e:∀i,vs.length<=i->w.cell? ⟨b,i,none⟩=none
theorem Blk.new (w:World) (vs:LV) (T:TypeId):Blk (w.alloc (.cells vs.toArray T)) w.heap.size vs:=
 ⟨Q3h.new w vs T,fun _ _=>TO _ _ _ _ _ (Uo _ _),fun i hi=>by rw[Uw _ _ _ _ _ _ (Uo _ _)];simpa using hi⟩
theorem Blk.same {w w':World} {b:Nat} {vs:LV} (h:Blk w b vs) (hb:w'.heap[b]?=w.heap[b]?):Blk w' b vs:=
 ⟨fun i v hi=>(UR (w:=w) (w':=w') (a:=⟨b,i,none⟩) hb).trans (h.c i v hi),fun i hi=>(Xao (w:=w) (w':=w') (a:=⟨b,i,none⟩) hb).trans (h.f i hi),fun i hi=>(UR (w:=w) (w':=w') (a:=⟨b,i,none⟩) hb).trans (h.e i hi)⟩
theorem Blk.step {w w':World} {b B:Nat} {vs:LV} (h:Blk w b vs) (hb:Below B w w') (hB:b<B):Blk w' b vs:=h.same (hb.block b hB)
theorem Blk.set {w:World} {b i:Nat} {vs:LV} (h:Blk w b vs) (hi:i<vs.length) (v:Value):Blk (w.setCell ⟨b,i,none⟩ v) b (vs.set i v):=by
 refine ⟨fun j u hj=>?_,fun j hj=>by rw[Un];exact h.f j (by simpa using hj),fun j hj=>by
  rw[Tm] at hj;exact (Ud _ _ _ _ (by intro e;injection e with e1 e2;omega)).trans (h.e j hj)⟩
 by_cases hji:j=i
 ·subst hji;rw[TN hi] at hj;injection hj with hj;subst hj;exact UD _ _ _ (by rw[h.c j _ (Ub hi)];rfl)
 ·rw[Th (by omega)] at hj;exact (Ud _ _ _ _ (by intro e;injection e with e1 e2;first|exact hji e2|exact hji e2.symm)).trans (h.c j u hj)
theorem Blk.far {w:World} {b g i:Nat} {vs:LV} (h:Blk w b vs) (P0:g≠b) (v:Value):Blk (w.setCell ⟨g,i,none⟩ v) b vs:=
 h.same (Td _ _ _ _ (by show b≠g;omega))
theorem Blk.lt {w:World} {b:Nat} {v:Value} {vs:LV} (h:Blk w b (v::vs)):b<w.heap.size:=UI (h.c 0 v rfl)
theorem Blk.num {w:World} {b i:Nat} {vs:LV} (h:Blk w b vs) (hi:i+2<vs.length):Q37 w b i:=
 ⟨⟨_,h.c i _ (Ub (by omega))⟩,⟨_,h.c (i+1) _ (Ub (by omega))⟩,⟨_,h.c (i+2) _ (Ub hi)⟩,h.f _ (by omega),h.f _ (by omega),h.f _ hi⟩
theorem Q0i.blk {w:World} {b i:Nat} {vs:LV} {a:OA} {l c:Nat} {x:Q39} (h:Q0i w a l c x) (hb:Blk w b vs) (hi:i<vs.length) (hn:∀u∈vs,NoU u) (v:Value):Q0i (w.setCell ⟨b,i,none⟩ v) a l c x:=
 ⟨h.lie.set1 (hb.c i _ (Ub hi)) (hn _ (List.getElem_mem hi)) v,h.lo,h.hi⟩
theorem Q2w (b:Bool):NoU (.bool b):=fun _=>by simp[nv]
theorem Q3b (e:Int):NoU (.int .i64 e):=fun _=>by simp[nv]
theorem Q5l (a:OA) (l c:Nat):NoU (.slice a l c):=fun _=>by simp[nv]
structure Kp (R B:Nat) (w w':World):Prop where
 os:w'.os=w.os
 tape:w'.tape=w.tape
 output:w'.output=w.output
 size:w.heap.size<=w'.heap.size
 block:∀k,k<B->k≠R->w'.heap[k]?=w.heap[k]?
 oth:KeepsOthers w w'
theorem Kp.refl (R B:Nat) (w:World):Kp R B w w:=⟨rfl,rfl,rfl,Uf _,fun _ _ _=>rfl,KeepsOthers.refl _⟩
theorem Kp.trans {R B:Nat} {a b c:World} (h:Kp R B a b) (k:Kp R B b c):Kp R B a c:=
 ⟨k.os.trans h.os,k.tape.trans h.tape,k.output.trans h.output,Ul h.size k.size,fun i h1 h2=>(k.block i h1 h2).trans (h.block i h1 h2),h.oth.trans k.oth⟩
theorem Kp.of_below {R B:Nat} {w w':World} (h:Bw w w') (hB:B<=w.heap.size):Kp R B w w':=
 ⟨h.os,h.tape,h.output,h.size,fun k hk _=>h.block k (by omega),h.size,fun k o hk _=>(h.block k (Uq.1 hk).1).trans hk⟩
theorem Kp.set {R B:Nat} (w:World) {b i:Nat} (hb:b=R∨B<=b) (v:Value):Kp R B w (w.setCell ⟨b,i,none⟩ v):=
 ⟨rfl,rfl,rfl,by rw[Tj];exact Uf _,fun k h1 h2=>Td _ _ _ _ (by show k≠b;omega),KeepsOthers.setCell _ _ _⟩
theorem Kp.grown {R B:Nat} {w w':World} {row:Option Nat} (h:w.grownBy w' row) (hr:∀g,row=some g->B<=g) (hB:B<=w.heap.size) (hc:∀(j:Nat) (o:Obj),row=some j->w.heap[j]?=some o->o.isCells=true):Kp R B w w':=
 ⟨h.os,h.tape,h.output,h.size,fun k h1 _=>h.block k (by omega) (fun e=>by have:=hr k e.symm;omega),KeepsOthers.of_grownBy h hc⟩
theorem Kp.below {R B B0:Nat} {w w':World} (h:Kp R B w w') (h0:B0<=R) (h1:B0<=B):Below B0 w w':=⟨h.os,h.tape,h.output,h.size,fun k hk=>h.block k (by omega) (by omega)⟩
structure Q4o (w:World) (B:Nat) (p:Pl) (L:List IvV):Prop where
 row:∃xs,Q88 NoU w B 44 6 p.a p.l p.c xs
 len:L.length=p.l
 ent:∀j x,L[j]?=some x->∃g,p.a=some ⟨g,0,none⟩/\Quz w g (j*6) x
theorem Q4o.nil_ (w:World) (B:Nat):Q4o w B ⟨none,0,0⟩ []:=⟨⟨[],Q88.nil_ _ _ _ _ _⟩,rfl,fun j x h=>by simp at h⟩
theorem Q4o.lt {w:World} {B:Nat} {p:Pl} {L:List IvV} (h:Q4o w B p L) {x:Addr} (hx:p.a=some x):B<=x.block/\x.block<w.heap.size:=by
 obtain ⟨xs,hr⟩:=h.row;exact Q2m.lt.row2_blk hr.1 hx
theorem Q4o.step {w w':World} {B:Nat} {p:Pl} {L:List IvV} (h:Q4o w B p L) (hb:Bw w w'):Q4o w' B p L:=by
 obtain ⟨xs,hr⟩:=h.row;refine ⟨⟨xs,hr.step hb⟩,h.len,fun j x hx=>?_⟩;obtain ⟨g,ha,R1⟩:=h.ent j x hx;exact ⟨g,ha,R1.step hb (h.lt ha).2⟩
theorem Q4o.set {w:World} {B b i:Nat} {p:Pl} {L:List IvV} (h:Q4o w B p L) {vs:LV} (hb:Blk w b vs) (hi:i<vs.length) (hn:∀u∈vs,NoU u) (P0:∀x,p.a=some x->x.block≠b) (v:Value):Q4o (w.setCell ⟨b,i,none⟩ v) B p L:=by
 obtain ⟨xs,hr⟩:=h.row;refine ⟨⟨xs,hr.keep fun x hx=>Td _ _ _ _ (P0 x hx)⟩,h.len,fun j x hx=>?_⟩;obtain ⟨g,ha,a,l,c,a2,m,d,⟨h0,h1,h2,h3,h4,h5⟩,h6,h7⟩:=h.ent j x hx;have hg:=P0 _ ha;have hc:∀k u,w.cell? ⟨g,k,none⟩=some u->(w.setCell ⟨b,i,none⟩ v).cell? ⟨g,k,none⟩=some u:=fun k u hu=>(UR (w:=w) (a:=⟨g,k,none⟩) (Td _ _ _ _ hg)).trans hu;exact ⟨g,ha,a,l,c,a2,m,d,⟨hc _ _ h0,hc _ _ h1,hc _ _ h2,hc _ _ h3,hc _ _ h4,hc _ _ h5⟩,h6.blk hb hi hn v,h7.blk hb hi hn v⟩
theorem Q4o.boxIn {w:World} {B:Nat} {p:Pl} {L:List IvV} (h:Q4o w B p L):Q86 w p.a p.l p.c L:=by
 obtain ⟨xs,hr⟩:=h.row;have J4:=hr.1.cap;refine ⟨h.len,J4.1,by have:=J4.2;simpa[maxLen] using this,?_⟩
 by_cases hL:L=[]
 ·exact .inl hL
 ·right
  obtain ⟨x,hx⟩:∃x,L[0]?=some x:=⟨_,Ub (Xbc.2 hL)⟩;obtain ⟨g,ha,_⟩:=h.ent 0 x hx;refine ⟨g,0,ha,(h.lt ha).2,fun j y hy=>?_⟩;obtain ⟨g2,Q9,R1⟩:=h.ent j y hy;rw[ha] at Q9;injection Q9 with Q9;injection Q9 with Q9;subst Q9;rw[UV];exact R1
def ivL (p q:Pl) (x:IvV):LV:=[.bool x.lo.neg,.int .i64 x.lo.exp,.slice p.a p.l p.c,.bool x.hi.neg,.int .i64 x.hi.exp,.slice q.a q.l q.c]
theorem Qy4 (p q:Pl) (x:IvV):∀u∈ivL p q x,NoU u:=by
 intro u hu;simp only[ivL,UG,Xa6,or_false] at hu;rcases hu with rfl|rfl|rfl|rfl|rfl|rfl <;> first|exact Q2w _|exact Q3b _|exact Q5l _ _ _
theorem Q4o.push {w w2:World} {B:Nat} {p:Pl} {L:List IvV} (h:Q4o w B p L) {xs:LV} (hr:Q88 NoU w B 44 6 p.a p.l p.c xs) {g c2:Nat} (hg:w.grownBy w2 (p.a.map (·.block))) (_hat:p.a=some ⟨g,0,none⟩∨g=w.heap.size) {x:IvV} {q1 q2:Pl}
 (X0:Q88 NoU w2 B 44 6 (some ⟨g,0,none⟩) (p.l+1) c2 (xs++ivL q1 q2 x)) (h1:Q0i w q1.a q1.l q1.c x.lo) (h2:Q0i w q2.a q2.l q2.c x.hi):Q4o w2 B ⟨some ⟨g,0,none⟩,p.l+1,c2⟩ (L++[x]):=by
 have ZA:Q0v (fun b=>∃y,p.a=some y/\y.block=b) w w2:=(Q0v.of_below (Uc _ _) _).trans0 (Q0v.of_grown hg fun r hr _=>by
  cases ha:p.a with
  |none=>rw[ha] at hr;simp at hr
  |some y=>rw[ha] at hr;simp only[UE,Up] at hr;exact ⟨y,rfl,hr⟩)
 have hw:∀{aw:OA} {lw cw:Nat} {y:Q39},Q0i w aw lw cw y->Q0i w2 aw lw cw y:=fun hy=>⟨hy.lie.turn (hr.off hy.lie) ZA (fun _ h=>h),hy.lo,hy.hi⟩;have Q2:xs.length=p.l*6:=hr.1.len;have Q7:∀i v,(xs++ivL q1 q2 x)[i]?=some v->w2.cell? ⟨g,i,none⟩=some v:=fun i v hv=>X0.1.cell0 hv;refine ⟨⟨_,X0⟩,by rw[Uh,h.len];rfl,fun j y hy=>⟨g,rfl,?_⟩⟩
 by_cases hj:j<p.l
 ·rw[TS (by rw[h.len];exact hj)] at hy;obtain ⟨g0,ha,a,l,c,a2,m,d,⟨k0,k1,k2,k3,k4,k5⟩,k6,k7⟩:=h.ent j y hy;have hc:∀i v,i<6->w.cell? ⟨g0,j*6+i,none⟩=some v->w2.cell? ⟨g,j*6+i,none⟩=some v:=fun i v hi hv=>by
   have E0:j*6+i<xs.length:=(by omega);have Kt:=hr;rw[ha] at Kt;have e0:=Kt.1.cell0 (Ub E0);rw[hv] at e0;injection e0 with e0;rw[e0];exact Q7 _ _ (by rw[TS E0,Ub E0])
  exact ⟨a,l,c,a2,m,d,⟨hc 0 _ (by decide) k0,hc 1 _ (by decide) k1,hc 2 _ (by decide) k2,hc 3 _ (by decide) k3,hc 4 _ (by decide) k4,hc 5 _ (by decide) k5⟩,hw k6,hw k7⟩
 ·have XX:j=p.l:=by
   have:=(Ui.1 hy).1;rw[Uh,h.len] at this;simp at this;omega
  subst XX;rw[TI (by rw[h.len];exact Uf _),h.len,Nat.sub_self] at hy;simp only[US,Up] at hy;subst hy;have hc:∀i v,(ivL q1 q2 x)[i]?=some v->w2.cell? ⟨g,p.l*6+i,none⟩=some v:=fun i v hv=>Q7 _ _ (by rw[TI (by omega),Q2,Nat.add_sub_cancel_left];exact hv);exact ⟨q1.a,q1.l,q1.c,q2.a,q2.l,q2.c,⟨hc 0 _ rfl,hc 1 _ rfl,hc 2 _ rfl,hc 3 _ rfl,hc 4 _ rfl,hc 5 _ rfl⟩,hw h1,hw h2⟩
structure RpP where
 b:Pl
 t:Pl
 m:Pl
 e:Pl
structure RpV where
 box:List IvV
 til:Q39
 most:Q39
 least:Q39
 prec:Int
 order:Int
 budget:Int
 over:Int
def rpL (p:RpP) (x:RpV):LV:=[.slice none 0 0,.slice p.b.a p.b.l p.b.c,.bool x.til.neg,.int .i64 x.til.exp,.slice p.t.a p.t.l p.t.c,.bool x.most.neg,.int .i64 x.most.exp,.slice p.m.a p.m.l p.m.c,.bool x.least.neg,.int .i64 x.least.exp,.slice p.e.a p.e.l p.e.c,.int .i64 x.prec,.int .i64 x.order,.int .i64 x.budget,.int .i64 x.over]
theorem Q72 (p:RpP) (x:RpV):∀u∈rpL p x,NoU u:=by
 intro u hu;simp only[rpL,UG,Xa6,or_false] at hu;rcases hu with rfl|rfl|rfl|rfl|rfl|rfl|rfl|rfl|rfl|rfl|rfl|rfl|rfl|rfl|rfl <;> first|exact Q2w _|exact Q3b _|exact Q5l _ _ _
structure Q62 (w:World) (R B:Nat) (p:RpP) (x:RpV):Prop where
 blk:Blk w R (rpL p x)
 box:Q4o w B p.b x.box
 t:Q0i w p.t.a p.t.l p.t.c x.til
 m:Q0i w p.m.a p.m.l p.m.c x.most
 e:Q0i w p.e.a p.e.l p.e.c x.least
theorem Q62.step {w w':World} {R B:Nat} {p:RpP} {x:RpV} (h:Q62 w R B p x) (hb:Bw w w'):Q62 w' R B p x:=
 ⟨h.blk.step hb h.blk.lt,h.box.step hb,h.t.step hb,h.m.step hb,h.e.step hb⟩
theorem Q62.far {w:World} {R B b i:Nat} {p:RpP} {x:RpV} (h:Q62 w R B p x) {vs:LV} (hb:Blk w b vs) (hi:i<vs.length) (hn:∀u∈vs,NoU u) (P0:b≠R) (hne2:∀x,p.b.a=some x->x.block≠b) (v:Value):Q62 (w.setCell ⟨b,i,none⟩ v) R B p x:=
 ⟨h.blk.far P0 v,h.box.set hb hi hn hne2 v,h.t.blk hb hi hn v,h.m.blk hb hi hn v,h.e.blk hb hi hn v⟩
structure Q78 (w:World) (B:Nat) (p:RpP) (x:RpV):Prop where
 box:Q4o w B p.b x.box
 t:Q0i w p.t.a p.t.l p.t.c x.til
 m:Q0i w p.m.a p.m.l p.m.c x.most
 e:Q0i w p.e.a p.e.l p.e.c x.least
theorem Q62.rest {w:World} {R B:Nat} {p:RpP} {x:RpV} (h:Q62 w R B p x):Q78 w B p x:=⟨h.box,h.t,h.m,h.e⟩
theorem Q78.set {w:World} {R B i:Nat} {p:RpP} {x:RpV} (h:Q78 w B p x) {vs:LV} (hb:Blk w R vs) (hi:i<vs.length) (hn:∀u∈vs,NoU u) (hR:R<B) (v:Value):Q78 (w.setCell ⟨R,i,none⟩ v) B p x:=
 ⟨h.box.set hb hi hn (fun x hx=>by have:=(h.box.lt hx).1;omega) v,h.t.blk hb hi hn v,h.m.blk hb hi hn v,h.e.blk hb hi hn v⟩
theorem Q62.over {w:World} {R B:Nat} {p:RpP} {x:RpV} (h:Q62 w R B p x) (hR:R<B) (o:Int):Q62 (w.setCell ⟨R,14,none⟩ (.int .i64 o)) R B p { x with over:=o }:=by
 have h1:=h.blk.set (i:=14) (by simp[rpL]) (.int .i64 o);have h2:=h.rest.set (i:=14) h.blk (by simp[rpL]) (Q72 _ _) hR (.int .i64 o);exact ⟨h1,h2.box,h2.t,h2.m,h2.e⟩
theorem Q4p {vs:LV} (h:∀u∈vs,NoU u) {i:Nat} {v:Value} (hv:NoU v):∀u∈vs.set i v,NoU u:=fun u hu=>by
 rcases Xa3 hu with h1|h1
 ·exact h u h1
 ·subst h1;exact hv
theorem Q78.num {w:World} {R B i:Nat} {p:RpP} {x:RpV} (h:Q78 w B p x) {vs:LV} (hb:Blk w R vs) (hi:i+2<vs.length) (hn:∀u∈vs,NoU u) (hR:R<B) (n:Bool) (e:Int) (a:OA) (l c:Nat):Q78 (Q36 w R i n e (.slice a l c)) B p x:=by
 have b1:=hb.set (i:=i) (by omega) (.bool n);have b2:=b1.set (i:=i+1) (by rw[Tm];omega) (.int .i64 e);have n1:=Q4p hn (i:=i) (Q2w n);have n2:=Q4p n1 (i:=i+1) (Q3b e);exact ((h.set hb (by omega) hn hR (.bool n)).set b1 (by rw[Tm];omega) n1 hR (.int .i64 e)).set b2 (by rw[Tm,Tm];omega) n2 hR (.slice a l c)
theorem Blk.store {w:World} {b i:Nat} {vs:LV} (h:Blk w b vs) (hi:i+2<vs.length) (n:Bool) (e:Int) (v:Value):Blk (Q36 w b i n e v) b (((vs.set i (.bool n)).set (i+1) (.int .i64 e)).set (i+2) v):=
 ((h.set (by omega) _).set (by rw[Tm];omega) _).set (by rw[Tm,Tm];omega) _
theorem Q0i.store {w:World} {b i:Nat} {vs:LV} {a:OA} {l c:Nat} {x:Q39} (h:Q0i w a l c x) (hb:Blk w b vs) (hi:i+2<vs.length) (hn:∀u∈vs,NoU u) (n:Bool) (e:Int) (v:Value):Q0i (Q36 w b i n e v) a l c x:=by
 have b1:=hb.set (i:=i) (by omega) (.bool n);have b2:=b1.set (i:=i+1) (by rw[Tm];omega) (.int .i64 e);have n1:=Q4p hn (i:=i) (Q2w n);have n2:=Q4p n1 (i:=i+1) (Q3b e);exact ((h.blk hb (by omega) hn (.bool n)).blk b1 (by rw[Tm];omega) n1 (.int .i64 e)).blk b2 (by rw[Tm,Tm];omega) n2 v
theorem Kp.num {R B:Nat} (w:World) {b i:Nat} (hb:b=R∨B<=b) (n:Bool) (e:Int) (v:Value):Kp R B w (Q36 w b i n e v):=
 ((Kp.set w hb _).trans (Kp.set _ hb _)).trans (Kp.set _ hb _)
def Qng (x:Q39) (d:Option Dyadic):Prop:=∀y,d=some y->x.ok/\x.val=y
def IvO (x:IvV) (d:Option Dyadic × Option Dyadic):Prop:=Qng x.lo d.1/\Qng x.hi d.2
def Qeg (x:Int) (o:Option Nat):Prop:=match o with|none=>x= -1|some q=>x=(q:Int)
structure StM (x:RpV) (st:PrS):Prop where
 prec:x.prec=(st.prec:Int)
 order:x.order=(st.order:Int)
 budget:x.budget=(st.budget:Int)
 til:Qng x.til st.til
 most:Qng x.most st.most
 least:Qng x.least st.least
 len:x.box.length=st.box.length
 box:∀(j:Nat) (a:IvV) (b:Option Dyadic × Option Dyadic),x.box[j]?=some a->st.box[j]?=some b->IvO a b
 over:Qeg x.over st.over
theorem Qvv {x:Int} {o:Option Nat} (h:Qeg x o):x<0↔o=none:=by
 unfold Qeg at h;cases o with
 |none=>simp only at h;exact ⟨fun _=>rfl,fun _=>by omega⟩
 |some q=>simp only at h;exact ⟨fun h1=>by omega,fun h1=>by cases h1⟩
theorem Qtb {n:Bool} {e:Int} {L:LN} (h:Q0a n e L): -65536<=e/\e<=65536:=by
 unfold Q0a at h
 split at h
 ·have:=h.2;omega
 ·exact h.2.2.2
theorem Q28 {S:LU} {n:Bool} {e:Int} {L:LN} {er:Int} (h:Q14 S n e L er):
 (-9223372036854775808<=e/\e<=9223372036854775807)/\((Qga S=none/\er=5)∨(∃d,Qga S=some d/\Qng ⟨n,e,L⟩ d/\((d=none/\er=2)∨(d≠none/\er=0)))):=by
 unfold Q14 at h;unfold Qga;cases hF:form S with
 |none=>
  rw[hF] at h;obtain ⟨rfl,rfl,rfl,rfl⟩:=h;exact ⟨⟨by decide,by decide⟩,.inl ⟨rfl,rfl⟩⟩
 |some z=>
  obtain ⟨neg,v,e0⟩:=z;rw[hF] at h;rcases Q94 h with ⟨h1,rfl,h3,h4⟩|⟨h1,rfl,rfl,rfl,rfl⟩
  ·have:=Qtb h3;refine ⟨⟨by omega,by omega⟩,.inr ⟨some (dy (sgn neg v) e0),?_,?_,.inr ⟨by simp,rfl⟩⟩⟩
   ·exact congrArg some (Uu ((Q1j _).2 h1))
   ·intro y hy;injection hy with hy;exact ⟨h3,h4.trans hy⟩
  ·refine ⟨⟨by decide,by decide⟩,.inr ⟨none,?_,fun y hy=>(by cases hy),.inl ⟨rfl,rfl⟩⟩⟩;exact congrArg some (Us (fun h=>h1 ((Q1j _).1 h)))
theorem Qaq {ov:Int} {o:Option Nat} (h:Qeg ov o) {d:Option Dyadic} {er:Int} (hd:(d=none/\er=2)∨(d≠none/\er=0)) (p:Nat):Qeg (if er=2/\ov<0 then (p:Int) else ov) (Q5q o p d):=by
 have hl:=Qvv h;unfold Qeg at h⊢;rcases hd with ⟨rfl,rfl⟩|⟨hd,rfl⟩
 ·cases o with
  |none=>rw[Uu ⟨rfl,hl.2 rfl⟩];rfl
  |some q=>rw[Us (fun h=>by have:=hl.1 h.2;cases this)];exact h
 ·rw[Us (fun h=>by have:=h.1;omega)];cases o with
  |none=>cases d with
   |none=>exact absurd rfl hd
   |some y=>exact h
  |some q=>exact h
def Qvw (st:PrS):Prop:=st.over=none->st.til≠none/\st.most≠none/\st.least≠none/\∀b∈st.box,b.1≠none/\b.2≠none
theorem Q6k {o:Option Nat} {p:Nat} {d:Option Dyadic} (h:Q5q o p d=none):o=none/\d≠none:=by
 cases o <;> cases d <;> simp[Q5q] at h⊢
theorem Qpm:Qvw PrS.empty:=fun _=>⟨by simp[PrS.empty],by simp[PrS.empty],by simp[PrS.empty],fun b hb=>by simp[PrS.empty] at hb⟩
theorem Qpn {i p:Nat} {l:LU} {st st':PrS} (h:Q4v i p l st=some st') (hf:Qvw st):Qvw st':=by
 have hc:∀{X:Option Nat} {f:Nat->PrS},X.map f=some st'->∃n,st'=f n:=fun {X f} h=>by
  cases X with
  |none=>simp at h
  |some n=>simp only[UE,Up] at h;exact ⟨n,h.symm⟩
 have hd:∀{X:Option (Option Dyadic)} {f:Option Dyadic->PrS},X.map f=some st'->∃n,st'=f n:=fun {X f} h=>by
  cases X with
  |none=>simp at h
  |some n=>simp only[UE,Up] at h;exact ⟨n,h.symm⟩
 have K1:(if st.box.length<4 then (Qex l).map fun b=>{ st with box:=st.box++[b],over:=Q5q (Q5q st.over p b.1) p b.2 } else none)=some st'->Qvw st':=fun h=>by
  split at h
  ·cases hb:Qex l with
   |none=>rw[hb] at h;simp at h
   |some b=>
    rw[hb] at h;simp only[UE,Up] at h;subst h;intro ho;obtain ⟨h1,h2⟩:=Q6k ho;obtain ⟨h3,h4⟩:=Q6k h1;obtain ⟨f1,f2,f3,f4⟩:=hf h3;refine ⟨f1,f2,f3,fun c hc=>?_⟩;rcases Tp.1 hc with hc|hc
    ·exact f4 c hc
    ·rw[UC] at hc;subst hc;exact ⟨h4,h2⟩
  ·cases h
 unfold Q4v at h
 split at h
 ·obtain ⟨n,rfl⟩:=hc h;exact hf
 ·obtain ⟨n,rfl⟩:=hc h;exact hf
 ·obtain ⟨n,rfl⟩:=hc h;exact hf
 ·obtain ⟨d,rfl⟩:=hd h;intro ho;obtain ⟨h1,h2⟩:=Q6k ho;obtain ⟨f1,f2,f3,f4⟩:=hf h1;exact ⟨h2,f2,f3,f4⟩
 ·obtain ⟨d,rfl⟩:=hd h;intro ho;obtain ⟨h1,h2⟩:=Q6k ho;obtain ⟨f1,f2,f3,f4⟩:=hf h1;exact ⟨f1,h2,f3,f4⟩
 ·obtain ⟨d,rfl⟩:=hd h;intro ho;obtain ⟨h1,h2⟩:=Q6k ho;obtain ⟨f1,f2,f3,f4⟩:=hf h1;exact ⟨f1,f2,h2,f4⟩
 ·exact K1 h
structure Qdv (s:LU) (i p:Nat) (st:PrS):Prop where
 eq:∃f,Qey s (s.length+1) 0 0 PrS.empty=Qey s f i p st/\s.length<p+f
 le:p<=s.length
 ip:i<=p
 full:Qvw st
theorem Qdv.zero (s:LU):Qdv s 0 0 PrS.empty:=⟨⟨_,rfl,by omega⟩,Ut _,Uf _,Qpm⟩
theorem Qnh {b:UInt8}:∀{l x y:LU},Qeb b l=some (x,y)->x.length<l.length
 |[],_,_,h=>by simp[Qeb] at h
 |c::r,x,y,h=>by
  rw[Qeb] at h
  split at h
  ·simp only[Up,Xat] at h;rw[<-h.1];simp
  ·cases hc:Qeb b r with
   |none=>rw[hc] at h;simp at h
   |some q=>
    rw[hc] at h;simp only[UE,Up,Xat] at h;have:=Qnh (x:=q.1) (y:=q.2) hc;rw[<-h.1];simp;omega
theorem Qtc {s:LU} {p:Nat} {l:LU} (h:Q85 s p=some l):p+l.length<s.length:=by
 unfold Q85 at h;cases hc:Qeb 10 (s.drop p) with
 |none=>rw[hc] at h;simp at h
 |some q=>
  rw[hc] at h;simp only[UE,Up] at h;have:=Qnh (x:=q.1) (y:=q.2) hc;rw[h,Tu] at this;omega
theorem Qdv.step {s:LU} {i p:Nat} {st st':PrS} {l:LU} (h:Qdv s i p st) (hl:Q85 s p=some l) (hm:Q4v i p l st=some st'):Qdv s (i+1) (p+l.length+1) st':=by
 obtain ⟨f,he,hf⟩:=h.eq;have K0:=Qtc hl;obtain ⟨g,rfl⟩:∃g,f=g+1:=⟨f-1,by have:=h.le;omega⟩;refine ⟨⟨g,?_,by omega⟩,by omega,by have:=h.ip;omega,Qpn hm h.full⟩;rw[he,Qey,hl];simp only[hm]
theorem Qdv.bad {s:LU} {i p:Nat} {st:PrS} {l:LU} (h:Qdv s i p st) (hl:Q85 s p=some l) (hm:Q4v i p l st=none):Qey s (s.length+1) 0 0 PrS.empty=if 6<i then .ok (p,st) else .error (p,5):=by
 obtain ⟨f,he,hf⟩:=h.eq;obtain ⟨g,rfl⟩:∃g,f=g+1:=⟨f-1,by have:=h.le;omega⟩;rw[he,Qey,hl];simp only[hm]
theorem Qdv.end_ {s:LU} {i p:Nat} {st:PrS} (h:Qdv s i p st) (hl:Q85 s p=none):Qey s (s.length+1) 0 0 PrS.empty=if i<=6 then .error (s.length,5) else .ok (p,st):=by
 obtain ⟨f,he,hf⟩:=h.eq;obtain ⟨g,rfl⟩:∃g,f=g+1:=⟨f-1,by have:=h.le;omega⟩;rw[he,Qey,hl]
theorem Qjs {b:UInt8}:∀{l x y:LU},Qeb b l=some (x,y)->x.length+y.length+1=l.length
 |[],_,_,h=>by simp[Qeb] at h
 |c::r,x,y,h=>by
  rw[Qeb] at h
  split at h
  ·simp only[Up,Xat] at h;rw[<-h.1,<-h.2];simp
  ·cases hc:Qeb b r with
   |none=>rw[hc] at h;simp at h
   |some q=>
    rw[hc] at h;simp only[UE,Up,Xat] at h;have:=Qjs (x:=q.1) (y:=q.2) hc;rw[<-h.1,<-h.2];simp;omega
theorem Qvx {t:LU} {e:Ending} (h:Qy3 ⟨t.toArray⟩ e):∃(lo hi:LU) (two:Bool),e=.returned (.tuple #[.string ⟨lo.toArray⟩,.string ⟨hi.toArray⟩,.bool two])/\lo.length<=t.length/\hi.length<=t.length/\Qeb 32 t=(if two=true then some (lo,hi) else none):=by
 unfold Qy3 at h;have e1:(⟨t.toArray⟩:ByteArray).data.toList=t:=rfl;rw[e1] at h;cases hc:Qeb 32 t with
 |none=>rw[hc] at h;exact ⟨t,[],false,h,Uf _,Ut _,rfl⟩
 |some q=>
  rw[hc] at h;have:=Qjs (x:=q.1) (y:=q.2) hc;exact ⟨q.1,q.2,true,h,by omega,by omega,rfl⟩
theorem Qdw {w w':World} {R B A at_ o:Nat} {p:RpP} {x:RpV} {us:LV} {S:LU} {r:Ending} (hI:Q62 w R B p x) (hR:R<B) (hB:B<=w.heap.size) (hA:Blk w A us) (hAB:B<=A) (hAs:A<w.heap.size) (hAn:∀u∈us,NoU u) (hAb:∀y,p.b.a=some y->y.block≠A) (ho:o+2<us.length) (h:J05 w R at_ A o x.over S r w'):
 ∃n e a l c L er,r=.returned (.bool (er != 5))/\Q14 S n e L er/\Q62 w' R B p { x with over:=if er=2/\x.over<0 then (at_:Int) else x.over }/\Blk w' A (((us.set o (.bool n)).set (o+1) (.int .i64 e)).set (o+2) (.slice a l c))/\Q0i w' a l c ⟨n,e,L⟩/\Kp R B w w'/\A<w'.heap.size/\(∀a l c y,Q0i w a l c y->Q0i w' a l c y):=by
 obtain ⟨n,e,a,l,c,L,er,w1,rfl,P6,hb,hw,rfl⟩:=h;have hx:=(Q28 P6).1;have G8:=hI.step hb;have E7:=hA.step hb hAs;have X6:Q0i w1 a l c ⟨n,e,L⟩:=⟨hw,hx.1,hx.2⟩;have J2:=Kp.of_below (R:=R) hb hB;have hRl:(14:Nat)<(rpL p x).length:=by simp[rpL]
 have X2:∀(W:World) (z:RpV),Q62 W R B p z->Blk W A us->Q0i W a l c ⟨n,e,L⟩->Kp R B w W->(∀a l c y,Q0i w a l c y->Q0i W a l c y)->
  Q62 (Q36 W A o n e (.slice a l c)) R B p z/\Blk (Q36 W A o n e (.slice a l c)) A (((us.set o (.bool n)).set (o+1) (.int .i64 e)).set (o+2) (.slice a l c))/\Q0i (Q36 W A o n e (.slice a l c)) a l c ⟨n,e,L⟩/\Kp R B w (Q36 W A o n e (.slice a l c))/\A<(Q36 W A o n e (.slice a l c)).heap.size/\(∀a' l' c' y,Q0i w a' l' c' y->Q0i (Q36 W A o n e (.slice a l c)) a' l' c' y):=by
  intro W z hz hAW hNW hkW hq;have b1:=hAW.set (i:=o) (by omega) (.bool n);have b2:=b1.set (i:=o+1) (by rw[Tm];omega) (.int .i64 e);have n1:=Q4p hAn (i:=o) (Q2w n);have n2:=Q4p n1 (i:=o+1) (Q3b e);have P0:A≠R:=by omega
  have i1:=hz.far hAW (i:=o) (by omega) hAn P0 hAb (.bool n);have i2:=i1.far b1 (i:=o+1) (by rw[Tm];omega) n1 P0 hAb (.int .i64 e);have i3:=i2.far b2 (i:=o+2) (by rw[Tm,Tm];omega) n2 P0 hAb (.slice a l c);have hk:=hkW.trans (Kp.num W (i:=o) (.inr hAB) n e (.slice a l c));exact ⟨i3,hAW.store ho n e _,hNW.store hAW ho hAn n e _,hk,Ue hAs hk.size,fun a' l' c' y hy=>(hq a' l' c' y hy).store hAW ho hAn n e _⟩
 refine ⟨n,e,a,l,c,L,er,rfl,P6,?_⟩
 by_cases hc:er=2/\x.over<0
 ·simp only[Uu hc];exact X2 (w1.setCell ⟨R,14,none⟩ (.int .i64 (at_:Int))) _ (G8.over hR (at_:Int)) (E7.far (by omega) _) (X6.blk G8.blk hRl (Q72 _ _) _) (J2.trans (Kp.set _ (.inl rfl) _)) (fun a l c y hy=>(hy.step hb).blk G8.blk hRl (Q72 _ _) _)
 ·simp only[Us hc];exact X2 w1 x G8 E7 X6 J2 (fun a l c y hy=>hy.step hb)
theorem Qtd:(Tryz.prog.info? 44).map (fun i=>(i.zero,i.size,i.bytes))=some (some (.agg #[.bool false,.int .i64 0,.slice none 0 0,.bool false,.int .i64 0,.slice none 0 0]),6,80):=by kernel_rfl
theorem Qzm:∀u∈(Value.agg #[.bool false,.int .i64 0,.slice none 0 0,.bool false,.int .i64 0,.slice none 0 0]).cells.toList,NoU u:=by
 intro u hu;simp[Value.cells] at hu;rcases hu with rfl|rfl|rfl|rfl|rfl|rfl <;> first|exact Q2w _|exact Q3b _|exact Q5l _ _ _
theorem Qjt:Tryz.prog.underlying 23=some (.slice 44):=by kernel_rfl
theorem Qte (W:World) (v0 v1 v2 v3 v4 v5:Value):(Instr.buildSlice 23 1 #[(0,.agg #[v0,v1,v2,v3,v4,v5])]).run Tryz.prog W=.ok (.slice (some ⟨W.heap.size,0,none⟩) 1 1) (W.alloc (.cells #[v0,v1,v2,v3,v4,v5] 44)):=by
 obtain ⟨i0,O2,E2,I2,X1⟩:=Q1c Qtd;exact run_buildSlice W 23 44 1 _ #[v0,v1,v2,v3,v4,v5] i0 _ Qjt O2 E2 (by rw[I2];decide) (by rw[I2];decide) (by rw[I2];first|kernel_rfl|simp[Instr.fill,Value.cells])
def ivC (R _A:Nat) (p:RpP) (y:IvV) (q1 q2:Pl):List (Option Value):=[some (.pointer (some ⟨R,0,none⟩)),some (.pointer (some ⟨R,0,none⟩)),some (.pointer (some ⟨R,0,none⟩)),some (.pointer (some ⟨R,0,none⟩)),some (.pointer (some ⟨R,1,none⟩)),some (.slice p.b.a p.b.l p.b.c),some (.agg #[.bool y.lo.neg,.int .i64 y.lo.exp,.slice q1.a q1.l q1.c,.bool y.hi.neg,.int .i64 y.hi.exp,.slice q2.a q2.l q2.c]),none,none,some (.pointer (some ⟨R,0,none⟩)),some (.pointer (some ⟨R,0,none⟩)),some (.pointer (some ⟨R,1,none⟩)),none]
def J06 (U:World) (R B:Nat) (p:RpP) (x:RpV) (y:IvV) (v:Value) (W:World):Prop:=∃g c,v=.slice (some ⟨g,0,none⟩) (p.b.l+1) c/\Blk W R (rpL p x)/\Q78 W B { p with b:=⟨some ⟨g,0,none⟩,p.b.l+1,c⟩ } { x with box:=x.box++[y] }/\Kp R B U W
def J07 (U:World) (R B:Nat) (p:RpP) (x:RpV) (y:IvV) (W:World):Prop:=∃q,Q62 W R B { p with b:=q } { x with box:=x.box++[y] }/\Kp R B U W
structure IvI (U:World) (R A B:Nat) (p:RpP) (x:RpV) (y:IvV) (q1 q2:Pl) (D:Nat->Bool) (vs:Nat->Value) (W:World):Prop where
 v:∀j c,D j=true->(ivC R A p y q1 q2)[j]?=some (some c)->vs j=c
 w0:D 8=false->D 12=false->Bw U W
 w7:D 8=false->D 7=true->∃bl,vs 7=.slice (some ⟨bl,0,none⟩) 1 1/\bl<W.heap.size/\W.heap[bl]?=some (.cells (ivL q1 q2 y).toArray 44 (0,0))
 w8:D 8=true->D 12=false->J06 U R B p x y (vs 8) W
 w12:D 12=true->J07 U R B p x y W
theorem Q3c {D:Nat->Bool} {k j:Nat} (h:j≠k):Q4d D k j=D j:=Us h
theorem Q73 {vs:Nat->Value} {k j:Nat} {v:Value} (h:j≠k):Q3z vs k v j=vs j:=Us h
theorem Qdx (vs:Nat->Value) (k:Nat) (v:Value):Q3z vs k v k=v:=Uu rfl
section
variable {U:World} {R A B:Nat} {p:RpP} {x:RpV} {y:IvV} {q1 q2:Pl} {D:Nat->Bool} {vs:Nat->Value} {W:World}
theorem IvI.q (h:IvI U R A B p x y q1 q2 D vs W) {k:Nat} {c:Value} (h7:k≠7) (h8:k≠8) (QN:k≠12) (hc:(ivC R A p y q1 q2)[k]?=some (some c)):IvI U R A B p x y q1 q2 (Q4d D k) (Q3z vs k c) W:=by
 refine ⟨fun j c' hj R6=>?_,fun h1 h2=>h.w0 (by rwa[Q3c (Ne.symm h8)] at h1) (by rwa[Q3c (Ne.symm QN)] at h2),fun h1 h2=>?_,fun h1 h2=>?_,fun h1=>h.w12 (by rwa[Q3c (Ne.symm QN)] at h1)⟩
 ·by_cases e:j=k
  ·subst e;rw[hc] at R6;injection R6 with R6;injection R6 with R6;rw[Qdx];exact R6
  ·rw[Q73 e];exact h.v j c' (by rwa[Q3c e] at hj) R6
 ·rw[Q73 (Ne.symm h7)];exact h.w7 (by rwa[Q3c (Ne.symm h8)] at h1) (by rwa[Q3c (Ne.symm h7)] at h2)
 ·rw[Q73 (Ne.symm h8)];exact h.w8 (by rwa[Q3c (Ne.symm h8)] at h1) (by rwa[Q3c (Ne.symm QN)] at h2)
theorem IvI.at_ {ops:Array Oper} {a:Act} (_h:IvI U R A B p x y q1 q2 D (Q0g ops a) W) {j:Nat} {t:Tmp} (hj:(ops[j]?).bind (·.dst)=some t):a.eval (.tmp t)=Q0g ops a j:=Q8r hj rfl
theorem IvI.ev {ops:Array Oper} {a:Act} (_h:IvI U R A B p x y q1 q2 D (Q0g ops a) W) {j:Nat} {t:Tmp} (hj:(ops[j]?).bind (·.dst)=some t):a.tmps[t]?.getD undef=Q0g ops a j:=Q18 hj rfl
theorem IvI.s7 (h:IvI U R A B p x y q1 q2 D vs W) (d8:D 8=false) (d12:D 12=false):IvI U R A B p x y q1 q2 (Q4d D 7) (Q3z vs 7 (.slice (some ⟨W.heap.size,0,none⟩) 1 1)) (W.alloc (.cells (ivL q1 q2 y).toArray 44)):=by
 have hb:=h.w0 d8 d12;refine ⟨fun j c' hj R6=>?_,fun _ _=>hb.alloc hb.size _,fun _ _=>⟨W.heap.size,Qdx _ _ _,Q0p _ _,Uo _ _⟩,fun h1 _=>?_,fun h1=>?_⟩
 ·by_cases e:j=7
  ·subst e;simp[ivC] at R6
  ·rw[Q73 e];exact h.v j c' (by rwa[Q3c e] at hj) R6
 ·rw[Q3c (by decide),d8] at h1;cases h1
 ·rw[Q3c (by decide),d12] at h1;cases h1
theorem IvI.s8 (h:IvI U R A B p x y q1 q2 D vs W) (hI:Q62 U R B p x) (hR:R<B) (hB:B<=U.heap.size) (h1:Q0i U q1.a q1.l q1.c y.lo) (h2:Q0i U q2.a q2.l q2.c y.hi) (hl:p.b.l<=1000) (d7:D 7=true) (d8:D 8=false) (d12:D 12=false) (ty:TypeId):
 ∃v W',(Builtin.append_ #[23,23] ty #[.slice p.b.a p.b.l p.b.c,vs 7]).run Tryz.prog W=.ok v W'/\IvI U R A B p x y q1 q2 (Q4d D 8) (Q3z vs 8 v) W':=by
 have hb:=h.w0 d8 d12;obtain ⟨bl,e7,V5,W6⟩:=h.w7 d8 d7;obtain ⟨i0,O2,E2,I2,X1⟩:=Q1c Qtd;have hW:=hI.step hb;obtain ⟨xs,hr⟩:=hW.box.row;have hBW:=Ul hB hb.size;obtain ⟨g,c',w',Q1,A1,Z7,R1⟩:=Q25 (P:=Tryz.prog) NoU W 23 ty 44 i0 _ 6 80 Qjt O2 E2 I2 X1 rfl Qzm B hBW p.b.a p.b.l p.b.c xs hr bl 1 1 (ivL q1 q2 y) rfl (TR (cs:=(ivL q1 q2 y).toArray) W6) (by intro u hu;simp only[ivL,UG,Xa6,or_false] at hu;rcases hu with rfl|rfl|rfl|rfl|rfl|rfl <;> rfl) (Qy4 _ _ _) (by decide) (by omega) (by decide) (by decide);have Yh:=hW.box.push hr Z7 R1 A1 (h1.step hb) (h2.step hb);have hBg:∀k,p.b.a.map (·.block)=some k->B<=k/\k<W.heap.size:=fun k hk=>by
  cases ha:p.b.a with
  |none=>rw[ha] at hk;cases hk
  |some z=>rw[ha] at hk;simp only[UE,Up] at hk;subst hk;exact hW.box.lt ha
 have hoff:∀{aw:OA} {lw cw:Nat} {z:Q39},Q0i W aw lw cw z->Q0i w' aw lw cw z:=fun {aw lw cw z} hz=>⟨hz.lie.turn (hr.off hz.lie) ((Q0v.of_below (Uc _ _) _).trans0 (Q0v.of_grown Z7 fun r hr _=>by
  cases ha:p.b.a with
  |none=>rw[ha] at hr;cases hr
  |some z=>rw[ha] at hr;simp only[UE,Up] at hr;exact ⟨z,rfl,hr⟩)) (fun _ h=>h),hz.lo,hz.hi⟩
 have hkp:Kp R B U w':=(Kp.of_below hb hB).trans (Kp.grown Z7 (fun g hg=>(hBg g hg).1) hBW (fun j o hj ho=>by
  rcases hr.1.form with ⟨h0,_⟩|⟨g',cur,e1,_,_,hh,_⟩
  ·rw[h0] at hj;cases hj
  ·rw[e1] at hj;simp only[UE,Up] at hj;subst hj;rw[hh,Up] at ho;rw[<-ho];rfl))
 have O5:Blk w' R (rpL p x):=hW.blk.same (Z7.block R (by have:=hW.blk.lt;exact this) (fun e=>by have:=(hBg R e.symm).1;omega));rw[e7];refine ⟨_,w',Q1,fun j cc hj R6=>?_,fun h1 _=>?_,fun h1 _=>?_,fun _ _=>?_,fun h1=>?_⟩
 ·by_cases e:j=8
  ·subst e;simp[ivC] at R6
  ·rw[Q73 e];exact h.v j cc (by rwa[Q3c e] at hj) R6
 ·rw[Q6c] at h1;cases h1
 ·rw[Q6c] at h1;cases h1
 ·rw[Qdx];exact ⟨g,c',rfl,O5,⟨Yh,hoff hW.t,hoff hW.m,hoff hW.e⟩,hkp⟩
 ·rw[Q3c (by decide),d12] at h1;cases h1
theorem IvI.s12 (h:IvI U R A B p x y q1 q2 D vs W) (hR:R<B) (d8:D 8=true) (d12:D 12=false) (v:Value):∃g c,vs 8=.slice (some ⟨g,0,none⟩) (p.b.l+1) c/\(∃u,W.cell? ⟨R,1,none⟩=some u)/\W.frozen? ⟨R,1,none⟩=false/\IvI U R A B p x y q1 q2 (Q4d D 12) (Q3z vs 12 v) (W.setCell ⟨R,1,none⟩ (.slice (some ⟨g,0,none⟩) (p.b.l+1) c)):=by
 obtain ⟨g,c,e8,O5,x5,hk⟩:=h.w8 d8 d12;refine ⟨g,c,e8,⟨_,O5.c 1 _ rfl⟩,O5.f 1 (by simp[rpL]),fun j cc hj R6=>?_,fun h1 _=>?_,fun h1 _=>?_,fun _ h1=>?_,fun _=>?_⟩
 ·by_cases e:j=12
  ·subst e;simp[ivC] at R6
  ·rw[Q73 e];exact h.v j cc (by rwa[Q3c e] at hj) R6
 ·rw[Q3c (by decide),d8] at h1;cases h1
 ·rw[Q3c (by decide),d8] at h1;cases h1
 ·rw[Q6c] at h1;cases h1
 ·have h1:=O5.set (i:=1) (by simp[rpL]) (.slice (some ⟨g,0,none⟩) (p.b.l+1) c);have h2:=x5.set (i:=1) O5 (by simp[rpL]) (Q72 _ _) hR (.slice (some ⟨g,0,none⟩) (p.b.l+1) c);exact ⟨⟨some ⟨g,0,none⟩,p.b.l+1,c⟩,⟨h1,h2.box,h2.t,h2.m,h2.e⟩,hk.trans (Kp.set _ (.inl rfl) _)⟩
end
def Qwt (w:World) (R B at_:Nat) (p:RpP) (x:RpV) (st:PrS) (l:LU) (r:Ending) (w':World):Prop:=∃p' x',Q62 w' R B p' x'/\Kp R B w w'/\
 match (Qex l).map (fun b=>({ st with box:=st.box++[b],over:=Q5q (Q5q st.over at_ b.1) at_ b.2 }:PrS)) with
 |none=>r=.returned (.bool false)/\p'=p/\∃o,x'={ x with over:=o }
 |some st'=>r=.returned (.bool true)/\StM x' st'
theorem Qwt.no {w w':World} {R B at_:Nat} {p:RpP} {x:RpV} {st:PrS} {l:LU} {o:Int} (h:Qex l=none) (hI:Q62 w' R B p { x with over:=o }) (hk:Kp R B w w'):Qwt w R B at_ p x st l (.returned (.bool false)) w':=
 ⟨p,_,hI,hk,by rw[h];exact ⟨rfl,rfl,o,rfl⟩⟩
theorem StM.push {x:RpV} {st:PrS} (h:StM x st) {y:IvV} {b:Option Dyadic × Option Dyadic} (hy:IvO y b) {o:Int} {ov:Option Nat} (ho:Qeg o ov):StM { x with box:=x.box++[y],over:=o } { st with box:=st.box++[b],over:=ov }:=by
 refine ⟨h.prec,h.order,h.budget,h.til,h.most,h.least,by simp[h.len],fun j a c ha hc=>?_,ho⟩;simp only at ha hc
 by_cases hj:j<x.box.length
 ·rw[TS hj] at ha;rw[TS (by rw[<-h.len];exact hj)] at hc;exact h.box j a c ha hc
 ·rw[TI (by omega)] at ha;rw[TI (by rw[<-h.len];omega),<-h.len] at hc;have hz:j-x.box.length=0:=by
   have:=(Ui.1 ha).1;simp at this;omega
  rw[hz] at ha hc;simp only[US,Up] at ha hc;subst ha;subst hc;exact hy
theorem Qeh (R B at_:Nat) (p:RpP) (x:RpV) (st:PrS) (s:ByteArray) (w:World) (hs:s.size<=1000000) (hT:∀W,Kp R B w W->Q1s W) (hI:Q62 w R B p x) (hR:R<B) (hB:B<=w.heap.size) (Y0:StM x st) (hl:st.box.length<4):
 Calls Tryz.prog 127 #[.pointer (some ⟨R,0,none⟩),.int .i64 (at_:Int),.string s] w (Qwt w R B at_ p x st s.data.toList):=by
 obtain ⟨L,hL⟩:∃L,s.data.toList=L:=⟨_,rfl⟩;have Zd:=Tryz.J0v s ⟨#[98,111,120,32]⟩ w;have x7:(⟨#[98,111,120,32]⟩:ByteArray).data.toList=Qh9++[32]:=rfl;rw[x7,hL] at Zd;have hr:=Qh1 Qh9 L;have U8:L.length<=1000000:=by rw[<-hL];have:s.data.toList.length=s.size:=(Lib.size_eq s).symm;omega
 obtain ⟨t,ht⟩:∃t,Lib.trimPrefix L (Qh9++[32])=t:=⟨_,rfl⟩;obtain ⟨b,hb⟩:∃b,Lib.hasPrefix L (Qh9++[32])=b:=⟨_,rfl⟩;have S5:t.length<=1000000:=by
  rw[<-ht];unfold Lib.trimPrefix
  split
  ·rw[Tu];omega
  ·omega
 rw[ht,hb] at Zd;rw[ht,hb] at hr;rw[hL];have hcut:=Qvu ⟨t.toArray⟩ w S5;have HC:=Xh4 Zd hcut hr S5;have HI:=Xh6 hI hT Y0 hl hR hB;clear hr Zd x7 ht hb hcut hT hI hR hB Y0 hl hs hL U8 S5
 go_enter Tryz.func127,Tryz.ntmps127
 go_upto_region 4 with (first
  |(go_at_call 177;refine (Xo1 HC).mono ?_;rintro e w2 ⟨he,D0⟩;obtain ⟨lo,hi,two,rfl,Z4,QV,hc⟩:=Qvx he;have H2:=Xh4 D0 Z4 QV hc;clear he D0 Z4 QV hc)
  |(go_at_call 173;refine (Xo0 HC).mono ?_;rintro e w1 ⟨rfl,E3⟩;have E3:=E3.symm;subst E3))
 obtain ⟨U0,hU0⟩:∃U0,w2.alloc (.cells #[.bool false,.int .i64 0,.slice none 0 0,.bool false,.int .i64 0,.slice none 0 0] 44)=U0:=⟨_,rfl⟩;have hA:Blk U0 w2.heap.size [.bool false,.int .i64 0,.slice none 0 0,.bool false,.int .i64 0,.slice none 0 0]:=by rw[<-hU0];exact Blk.new w2 [.bool false,.int .i64 0,.slice none 0 0,.bool false,.int .i64 0,.slice none 0 0] 44
 have E0:w2.heap.size<U0.heap.size:=by rw[<-hU0];exact Q0p _ _
 have Z0:Bw w U0:=by rw[<-hU0];exact (Xo0 H2).alloc (Xo0 H2).size _
 rw[hU0];obtain ⟨A,hAe⟩:∃A,w2.heap.size=A:=⟨_,rfl⟩;have hwA:w.heap.size<=A:=by rw[<-hAe];exact (Xo0 H2).size
 rw[hAe] at hA E0⊢;have G9:∀u∈[Value.bool false,.int .i64 0,.slice none 0 0,.bool false,.int .i64 0,.slice none 0 0],NoU u:=by
  intro u hu;simp only[UG,Xa6,or_false] at hu;rcases hu with rfl|rfl|rfl|rfl|rfl|rfl <;> first|exact Q2w _|exact Q3b _|exact Q5l _ _ _
 have hBA:B<=A:=Ul (Xe5 HI) hwA;have hBU:B<=U0.heap.size:=by omega
 have YR:=(Xo0 HI).step Z0;have Jv:Kp R B w U0:=Kp.of_below Z0 (Xe5 HI);have hAb:∀y,p.b.a=some y->y.block≠A:=fun y hy=>by have:=((Xo0 HI).box.lt hy).2;omega
 have HA:=Xh8 hA E0 G9 hBA hBU YR Jv hAb;clear hU0 hA E0 Z0 hAe hwA G9 hBA hBU YR Jv hAb;cases b
 case false=>
  have HN:=Ua (show Qex L=none by unfold Qex;rw[(Xo2 HC)];rfl)
  go_wp2_with fail
  go_ret;exact Qwt.no HN.out (Xo5 HA) (Xo6 HA)
 cases two
 case false=>
  have HN:=Ua (show Qex L=none by unfold Qex;rw[(Xo2 HC),Uu rfl,TF,(Xe3 H2),Us (by decide)])
  go_wp2_with fail
  go_ret;exact Qwt.no HN.out (Xo5 HA) (Xo6 HA)
 have K1:Qex L=match Qga lo,Qga hi with
  |some x,some y=>some (x,y)
  |_,_=>none:=by unfold Qex;rw[(Xo2 HC),Uu rfl,TF,(Xe3 H2),Uu rfl];rfl
 have HX:=Ua K1;clear K1;have U6:=Q5x R at_ A 0 x.over ⟨lo.toArray⟩ U0 (by show lo.length<=_;have:=(Xo1 H2);have:=(Xe3 HC);omega) ((Xo1 HI) _ (Xo6 HA)) ((Xo5 HA).blk.c 14 _ rfl) ((Xo5 HA).blk.f 14 (by simp[rpL])) ((Xo0 HA).num (i:=0) (by simp)) (.inl (by have:=(Xo3 HA);have:=(Xo4 HI);omega));have HLO:=Ua U6;clear U6;cases hnl:Qga lo with
 |none=>
  have HN:=Xh2 hnl (show Qex L=none by rw[HX.out,hnl]);clear hnl
  go_wp2_with (go_at_call 176;refine HLO.out.mono ?_;rintro r U1 hN
               obtain ⟨n1,e1,a1,l1,c1,L1,er1,rfl,P6,G8,E7,X6,J2,ZE,i6⟩:=Qdw (Xo5 HA) (Xo4 HI) (Xo4 HA) (Xo0 HA) (Xo3 HA) (Xo1 HA) (Xo2 HA) (Xe7 HA) (by simp) hN;obtain rfl:er1=5:=(by { rcases (Q28 P6).2 with ⟨_,h5⟩|⟨d,hd,_⟩;exact h5;exact absurd ((Xo0 HN).symm.trans hd) (by simp) });have H5:=Xh2 G8 J2;clear hN P6 G8 E7 X6 J2 ZE i6)
  go_ret;exact Qwt.no (Xe1 HN) (Xo0 H5) ((Xo6 HA).trans (Xe1 H5))
 |some d1=>
  have HN1:=Ua hnl;clear hnl;cases hnh:Qga hi with
  |none=>
   have HN:=Xh2 hnh (show Qex L=none by rw[HX.out,HN1.out,hnh]);clear hnh
   go_wp2_with (first
    |(go_at_call 176;refine (Xe3 H5).mono ?_;rintro r U2 hN
      obtain ⟨n2,e2,a2,l2,c2,L2,er2,rfl,P6,Jc,ZU,Xu,Z6,hAs2,J5⟩:=Qdw (Xo0 H5) (Xo4 HI) (Ul (Xo4 HA) (Xo1 H5).size) (Xo2 H5).1 (Xo3 HA) (Xo2 H5).2.1 (Xo2 H5).2.2 (Xe7 HA) (by simp) hN;obtain rfl:er2=5:=(by { rcases (Q28 P6).2 with ⟨_,h5⟩|⟨d,hd,_⟩;exact h5;exact absurd ((Xo0 HN).symm.trans hd) (by simp) });have H6:=Xh2 Jc ((Xo1 H5).trans Z6);clear hN P6 Jc ZU Xu Z6 hAs2 J5)
    |(go_at_call 176;refine HLO.out.mono ?_;rintro r U1 hN
      obtain ⟨n1,e1,a1,l1,c1,L1,er1,rfl,P6,G8,E7,X6,J2,ZE,i6⟩:=Qdw (Xo5 HA) (Xo4 HI) (Xo4 HA) (Xo0 HA) (Xo3 HA) (Xo1 HA) (Xo2 HA) (Xe7 HA) (by simp) hN;have Jj:(er1 != 5)=true:=(by { rcases (Q28 P6).2 with ⟨h0,_⟩|⟨d,hd,_,⟨_,h2⟩|⟨_,h2⟩⟩;exact absurd (HN1.out.symm.trans h0) (by simp);rw[h2];rfl;rw[h2];rfl });rw[Jj];have A5:=Q4p (Q4p (Q4p (Xo2 HA) (i:=0) (Q2w n1)) (i:=0+1) (Q3b e1)) (i:=0+2) (Q5l a1 l1 c1);have A2:=Q5x R at_ A 3 _ ⟨hi.toArray⟩ U1 (by show hi.length<=_;have:=(Xo2 H2);have:=(Xe3 HC);omega) ((Xo1 HI) _ ((Xo6 HA).trans J2)) (G8.blk.c 14 _ rfl) (G8.blk.f 14 (by simp[rpL])) (E7.num (i:=3) (by simp)) (.inl (by have:=(Xo3 HA);have:=(Xo4 HI);omega));have H5:=Xh4 G8 J2 (And.intro E7 (And.intro ZE A5)) A2;clear hN P6 G8 E7 X6 J2 ZE i6 Jj A5 A2))
   go_ret;exact Qwt.no (Xe1 HN) (Xo0 H6) ((Xo6 HA).trans (Xe1 H6))
  |some d2=>
   have HN:=Xh2 hnh (show Qex L=some (d1,d2) by rw[HX.out,HN1.out,hnh]);clear hnh
   go_upto_region 6 with (first
    |(go_at_call 176;refine (Xo3 H5).mono ?_;rintro r U2 hN
      obtain ⟨n2,e2,a2,l2,c2,L2,er2,rfl,P6,Jc,ZU,Xu,Z6,hAs2,J5⟩:=Qdw (Xo0 H5) (Xo4 HI) (Ul (Xo4 HA) (Xo1 H5).size) (Xo2 H5).1 (Xo3 HA) (Xo2 H5).2.1 (Xo2 H5).2.2 (Xe7 HA) (by simp) hN;have Jj:(er2 != 5)=true:=(by { rcases (Q28 P6).2 with ⟨h0,_⟩|⟨d,hd,_,⟨_,h2⟩|⟨_,h2⟩⟩;exact absurd ((Xo0 HN).symm.trans h0) (by simp);rw[h2];rfl;rw[h2];rfl });rw[Jj];have hO:Qng ⟨n2,e2,L2⟩ d2/\((d2=none/\er2=2)∨(d2≠none/\er2=0)):=(by { rcases (Q28 P6).2 with ⟨h0,_⟩|⟨d,hd,h3,h4⟩;exact absurd ((Xo0 HN).symm.trans h0) (by simp);rw[(Xo0 HN)] at hd;injection hd with hd;subst hd;exact ⟨h3,h4⟩ });have H6:=Xh7 Jc ((Xo1 H5).trans Z6) ZU (J5 _ _ _ _ (Xo4 H5)) Xu hO.1 (Qaq (Xe6 H5) hO.2 at_);clear hN P6 Jc ZU Xu Z6 hAs2 J5 Jj hO)
    |(go_at_call 176;refine HLO.out.mono ?_;rintro r U1 hN
      obtain ⟨n1,e1,a1,l1,c1,L1,er1,rfl,P6,G8,E7,X6,J2,ZE,i6⟩:=Qdw (Xo5 HA) (Xo4 HI) (Xo4 HA) (Xo0 HA) (Xo3 HA) (Xo1 HA) (Xo2 HA) (Xe7 HA) (by simp) hN;have Jj:(er1 != 5)=true:=(by { rcases (Q28 P6).2 with ⟨h0,_⟩|⟨d,hd,_,⟨_,h2⟩|⟨_,h2⟩⟩;exact absurd (HN1.out.symm.trans h0) (by simp);rw[h2];rfl;rw[h2];rfl });rw[Jj];have hO:Qng ⟨n1,e1,L1⟩ d1/\((d1=none/\er1=2)∨(d1≠none/\er1=0)):=(by { rcases (Q28 P6).2 with ⟨h0,_⟩|⟨d,hd,h3,h4⟩;exact absurd (HN1.out.symm.trans h0) (by simp);rw[HN1.out] at hd;injection hd with hd;subst hd;exact ⟨h3,h4⟩ });have A5:=Q4p (Q4p (Q4p (Xo2 HA) (i:=0) (Q2w n1)) (i:=0+1) (Q3b e1)) (i:=0+2) (Q5l a1 l1 c1);have A2:=Q5x R at_ A 3 _ ⟨hi.toArray⟩ U1 (by show hi.length<=_;have:=(Xo2 H2);have:=(Xe3 HC);omega) ((Xo1 HI) _ ((Xo6 HA).trans J2)) (G8.blk.c 14 _ rfl) (G8.blk.f 14 (by simp[rpL])) (E7.num (i:=3) (by simp)) (.inl (by have:=(Xo3 HA);have:=(Xo4 HI);omega));have H5:=Xh7 G8 J2 (And.intro E7 (And.intro ZE A5)) A2 X6 hO.1 (Qaq (Xo2 HI).over hO.2 at_);clear hN P6 G8 E7 X6 J2 ZE i6 Jj A5 A2 hO))
   obtain ⟨y,hy⟩:∃y:IvV,(⟨⟨n1,e1,L1⟩,⟨n2,e2,L2⟩⟩:IvV)=y:=⟨_,rfl⟩;obtain ⟨x2,Q3⟩:∃x2:RpV,({ x with over:=if er2=2/\(if er1=2/\x.over<0 then (at_:Int) else x.over)<0 then (at_:Int) else if er1=2/\x.over<0 then (at_:Int) else x.over }:RpV)=x2:=⟨_,rfl⟩;have Jc:Q62 U2 R B p x2:=(by rw[<-Q3];exact (Xo0 H6));have ZU:Blk U2 A (ivL ⟨a1,l1,c1⟩ ⟨a2,l2,c2⟩ y):=(by rw[<-hy];exact (Xo2 H6));have h1:Q0i U2 a1 l1 c1 y.lo:=(by rw[<-hy];exact (Xo3 H6));have h2:Q0i U2 a2 l2 c2 y.hi:=(by rw[<-hy];exact (Xo4 H6));have hBU2:B<=U2.heap.size:=Ul (Xo4 HA) (Xo1 H6).size;have K0:p.b.l<=1000:=(by have e1:=Jc.box.len;have e2:=(Xo2 HI).len;have e3:=(Xo3 HI);rw[<-Q3] at e1;simp only at e1;omega);have S3:∀q W,Q62 W R B { p with b:=q } { x2 with box:=x2.box++[y] }->Kp R B U2 W->Qwt w R B at_ p x st L (.returned (.bool true)) W:=fun q W hF hk=>by
    refine ⟨_,_,hF,(Xo6 HA).trans ((Xo1 H6).trans hk),?_⟩;rw[(Xe1 HN)];refine ⟨rfl,?_⟩;have:=(Xo2 HI).push (y:=y) (b:=(d1,d2)) (by rw[<-hy];exact ⟨(Xo5 H5),(Xo5 H6)⟩) (Xe6 H6);rw[<-Q3];exact this
   obtain ⟨⟨k0,k1,k2,k3,k4,k5⟩,hA2lt⟩:(U2.cell? ⟨A,0,none⟩=some (.bool y.lo.neg)/\U2.cell? ⟨A,1,none⟩=some (.int .i64 y.lo.exp)/\U2.cell? ⟨A,2,none⟩=some (.slice a1 l1 c1)/\U2.cell? ⟨A,3,none⟩=some (.bool y.hi.neg)/\U2.cell? ⟨A,4,none⟩=some (.int .i64 y.hi.exp)/\U2.cell? ⟨A,5,none⟩=some (.slice a2 l2 c2))/\A<U2.heap.size:=⟨⟨ZU.c 0 _ rfl,ZU.c 1 _ rfl,ZU.c 2 _ rfl,ZU.c 3 _ rfl,ZU.c 4 _ rfl,ZU.c 5 _ rfl⟩,UI (ZU.c 0 _ rfl)⟩;have HK:=Ua (fun W (h:Bw U2 W)=>ZU.step h hA2lt);have HE:=Xh6 Jc h1 h2 hBU2 K0 S3;clear Jc ZU h1 h2 hBU2 K0 S3 Q3 hy k0 k1 k2 k3 k4 k5;refine Q5c (by kernel_rfl) (fun D V W=>IvI U2 R A B p x2 y ⟨a1,l1,c1⟩ ⟨a2,l2,c2⟩ D V W) ?_ (by kernel_rfl) ?_ ?_ ?_
   ·rintro i o hi hd D V v W h;have hi12:i=12:=(by have:=Qms (x:=12) (y:=12) (by kernel_rfl) hi hd;omega);subst hi12;refine ⟨fun j c hj hc=>?_,h.w0,fun h1 h2=>?_,fun h1 h2=>?_,h.w12⟩
    ·by_cases e:j=12
     ·subst e;simp[ivC] at hc
     ·have:=h.v j c hj hc;rwa[Q73 e] at this
    ·have:=h.w7 h1 h2;rwa[Q73 (by decide)] at this
    ·have:=h.w8 h1 h2;rwa[Q73 (by decide)] at this
   ·intro V;exact ⟨fun j c hj=>(by cases hj),fun _ _=>Q01 U2,fun _ h=>(by cases h),fun h=>(by cases h),fun h=>(by cases h)⟩
   ·refine ⟨fun a W D hI G0 hk C0 G2=>?_,?_⟩
    ·have e0:=Q0d G0 0 (by kernel_rfl) rfl;exact Q15 (u:=.pointer (some ⟨R,0,none⟩)) rfl (by simp[go_sem,e0]) (hI.q (by decide) (by decide) (by decide) rfl)
    refine ⟨fun a W D hI G0 hk C0 G2=>?_,?_⟩
    ·have e0:=Q0d G0 0 (by kernel_rfl) rfl;exact Q15 (u:=.pointer (some ⟨R,0,none⟩)) rfl (by simp[go_sem,e0]) (hI.q (by decide) (by decide) (by decide) rfl)
    refine ⟨fun a W D hI G0 hk C0 G2=>?_,?_⟩
    ·have e0:=Q18 (j:=1) (t:=47) rfl (hI.v 1 _ (C0 1 (by decide)) rfl);exact Q15 (u:=.pointer (some ⟨R,0,none⟩)) rfl (by simp[go_sem,e0]) (hI.q (by decide) (by decide) (by decide) rfl)
    refine ⟨fun a W D hI G0 hk C0 G2=>?_,?_⟩
    ·have e0:=Q18 (j:=2) (t:=48) rfl (hI.v 2 _ (C0 2 (by decide)) rfl);exact Q15 (u:=.pointer (some ⟨R,0,none⟩)) rfl (by simp[go_sem,e0]) (hI.q (by decide) (by decide) (by decide) rfl)
    refine ⟨fun a W D hI G0 hk C0 G2=>?_,?_⟩
    ·have e0:=Q18 (j:=3) (t:=49) rfl (hI.v 3 _ (C0 3 (by decide)) rfl);exact Q15 (u:=.pointer (some ⟨R,1,none⟩)) rfl (by simp[go_sem,e0]) (hI.q (by decide) (by decide) (by decide) rfl)
    refine ⟨fun a W D hI G0 hk C0 G2=>?_,?_⟩
    ·have e0:=Q18 (j:=4) (t:=50) rfl (hI.v 4 _ (C0 4 (by decide)) rfl);have d8:D 8=false:=Q2c G2 (j:=8) rfl (k:=5) (by decide) hk;have d12:D 12=false:=Q2c G2 (j:=12) rfl (k:=8) (by decide) d8;have k1:=((Xo0 HE).step (hI.w0 d8 d12)).blk.c 1 _ rfl;exact Q15 (u:=.slice p.b.a p.b.l p.b.c) rfl (by simp[go_sem,e0,k1]) (hI.q (by decide) (by decide) (by decide) rfl)
    refine ⟨fun a W D hI G0 hk C0 G2=>?_,?_⟩
    ·have e0:=Q0d G0 12 (by kernel_rfl) rfl;have d7:D 7=false:=Q2c G2 (j:=7) rfl (k:=6) (by decide) hk;have d8:D 8=false:=Q2c G2 (j:=8) rfl (k:=7) (by decide) d7;have d12:D 12=false:=Q2c G2 (j:=12) rfl (k:=8) (by decide) d8;have hb:=HK.out W (hI.w0 d8 d12);have k0:=hb.c 0 _ rfl;have k1:=hb.c 1 _ rfl;have k2:=hb.c 2 _ rfl;have k3:=hb.c 3 _ rfl;have k4:=hb.c 4 _ rfl;have k5:=hb.c 5 _ rfl;exact Q15 (u:=.agg #[.bool y.lo.neg,.int .i64 y.lo.exp,.slice a1 l1 c1,.bool y.hi.neg,.int .i64 y.hi.exp,.slice a2 l2 c2]) rfl (by simp[go_sem,e0,k0,k1,k2,k3,k4,k5]) (hI.q (by decide) (by decide) (by decide) rfl)
    refine ⟨fun a W D hI G0 hk C0 G2=>?_,?_⟩
    ·have e0:a.eval (.tmp 52)=.agg #[.bool y.lo.neg,.int .i64 y.lo.exp,.slice a1 l1 c1,.bool y.hi.neg,.int .i64 y.hi.exp,.slice a2 l2 c2]:=Q8r (j:=6) (t:=52) rfl (hI.v 6 _ (C0 6 (by decide)) rfl);have d8:D 8=false:=Q2c G2 (j:=8) rfl (k:=7) (by decide) hk;have d12:D 12=false:=Q2c G2 (j:=12) rfl (k:=8) (by decide) d8;exact Q15 (w':=W.alloc (.cells (ivL ⟨a1,l1,c1⟩ ⟨a2,l2,c2⟩ y).toArray 44)) (u:=.slice (some ⟨W.heap.size,0,none⟩) 1 1) rfl (Qfp 23 1 #[(0,.tmp 52)] (by rfl) (parts':= #[(0,.agg #[.bool y.lo.neg,.int .i64 y.lo.exp,.slice a1 l1 c1,.bool y.hi.neg,.int .i64 y.hi.exp,.slice a2 l2 c2])]) (by simp[e0]) (Qte W _ _ _ _ _ _)) (hI.s7 d8 d12)
    refine ⟨fun a W D hI G0 hk C0 G2=>?_,?_⟩
    ·have e5:=Q8r (j:=5) (t:=51) rfl (hI.v 5 _ (C0 5 (by decide)) rfl);have d12:D 12=false:=Q2c G2 (j:=12) rfl (k:=8) (by decide) hk;obtain ⟨v,W',Q1,z4⟩:=hI.s8 (Xo0 HE) (Xo4 HI) (Xo3 HE) (Xo1 HE) (Xo2 HE) (Xo4 HE) (C0 7 (by decide)) hk d12 23;have e7:=hI.at_ (j:=7) (t:=53) rfl;exact Q15 (w':=W') (u:=v) rfl (Qlv (.tmp 51) (.tmp 53) 23 23 (by rfl) e5 e7 Q1) z4
    refine ⟨fun a W D hI G0 hk C0 G2=>?_,?_⟩
    ·have e0:=Q18 (j:=0) (t:=46) rfl (hI.v 0 _ (C0 0 (by decide)) rfl);exact Q15 (u:=.pointer (some ⟨R,0,none⟩)) rfl (by simp[go_sem,e0]) (hI.q (by decide) (by decide) (by decide) rfl)
    refine ⟨fun a W D hI G0 hk C0 G2=>?_,?_⟩
    ·have e0:=Q18 (j:=9) (t:=55) rfl (hI.v 9 _ (C0 9 (by decide)) rfl);exact Q15 (u:=.pointer (some ⟨R,0,none⟩)) rfl (by simp[go_sem,e0]) (hI.q (by decide) (by decide) (by decide) rfl)
    refine ⟨fun a W D hI G0 hk C0 G2=>?_,?_⟩
    ·have e0:=Q18 (j:=10) (t:=56) rfl (hI.v 10 _ (C0 10 (by decide)) rfl);exact Q15 (u:=.pointer (some ⟨R,1,none⟩)) rfl (by simp[go_sem,e0]) (hI.q (by decide) (by decide) (by decide) rfl)
    refine ⟨fun a W D hI G0 hk C0 G2=>?_,trivial⟩
    ·have e0:=Q18 (j:=11) (t:=57) rfl (hI.v 11 _ (C0 11 (by decide)) rfl);obtain ⟨g8,c8,h8,⟨u0,hu0⟩,u7,hn⟩:=hI.s12 (Xo4 HI) (C0 8 (by decide)) hk undef;have e8:=(hI.ev (j:=8) (t:=54) rfl).trans h8;exact Qaj (w':=W.setCell ⟨R,1,none⟩ (.slice (some ⟨g8,0,none⟩) (p.b.l+1) c8)) rfl (by simp[go_sem,e0,e8,hu0,u7]) hn
   ·intro D vs W hD hI;obtain ⟨q,hF,hk⟩:=hI.w12 (hD 12 (by decide));have HF:=Ua ((Xe5 HE) q W hF hk);clear hF hk hI hD;simp only[Q0r,Act.put,Ur,Ux,Uv]
    go_wp2_with fail
    go_ret;exact HF.out
end Go.Proofs.YtidojbkhlenahaaGreatDoor
