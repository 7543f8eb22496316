/- Part 17 of the proof of LawParseBuilt: RefM. Condition: as each theorem says; none at the end. -/
import Derived.Test.YtdilmfakkppgpaaGreatDoorPkParseBuilt08
set_option maxRecDepth 100000
set_option maxHeartbeats 16000000
namespace Go.Proofs.YtdilmfakkppgpaaGreatDoor
open Go.RowKit WordsM DecM
def Q6k (w0:World) (Φ:Bool->Int->LN->Int->Prop) (r:Ending) (w':World):Prop:=
 ∃neg' e' a' n' c' L er,r=.returned (.tuple #[.agg #[.bool neg',.int .i64 e',.slice a' n' c'],.int .i64 er])/\Φ neg' e' L er/\WordsIn w' a' n' c' L/\Bw w0 w'
theorem Q6k.of {w0 w':World} {Φ:Bool->Int->LN->Int->Prop} {neg':Bool} {e':Int} {a':OA} {n' c':Nat} {L:LN} {er:Int} (h1:Φ neg' e' L er) (h2:WordsIn w' a' n' c' L) (h3:Bw w0 w'):
 Q6k w0 Φ (.returned (.tuple #[.agg #[.bool neg',.int .i64 e',.slice a' n' c'],.int .i64 er])) w':=⟨neg',e',a',n',c',L,er,rfl,h1,h2,h3⟩
def Q0k (S:LU) (neg':Bool) (e':Int) (L:LN) (er:Int):Prop:=match form S with
 |none=>neg'=false/\e'=0/\L=[]/\er=5
 |some (neg,v,e)=>Q5z neg v e neg' e' L er
theorem Q0k.none_ {S:LU} (h:form S=none):Q0k S false 0 [] 5:=by unfold Q0k;rw[h];exact ⟨rfl,rfl,rfl,rfl⟩
theorem Q0k.some_ {S:LU} {neg:Bool} {v:Nat} {e:Int} (h:form S=some (neg,v,e)) {neg':Bool} {e':Int} {L:LN} {er:Int} (hm:Q5z neg v e neg' e' L er):Q0k S neg' e' L er:=by unfold Q0k;rw[h];exact hm
theorem Qfg (s:ByteArray):(∃h:0<s.size,(s[0]'h)=45/\Q15 s.data.toList=(true,s.data.toList.drop 1))∨((∀h:0<s.size,(s[0]'h)≠45)/\Q15 s.data.toList=(false,s.data.toList.drop 0)):=by
 have hb:=fun h=>Q6u s 0 h;have hl:s.data.toList.length=s.size:=rfl;generalize s.data.toList=L at*;cases L with
 |nil=>exact .inr ⟨fun h=>by simp at hl;omega,rfl⟩
 |cons c r=>
  have h0:0<s.size:=by rw[<-hl];simp
  have hc:=hb h0;simp only[UI,Un] at hc
  by_cases h:c=45
  ·exact .inl ⟨h0,by rw[<-hc];exact h,by simp[Q15,h]⟩
  ·exact .inr ⟨fun h'=>by rw[<-hc];exact h,by simp[Q15,h]⟩
theorem Qaa (s:ByteArray) (p:Nat):(∃h:p<s.size,(s[p]'h)=45/\Q15 (s.data.toList.drop p)=(true,s.data.toList.drop (p+1)))∨((∀h:p<s.size,(s[p]'h)≠45)/\Q15 (s.data.toList.drop p)=(false,s.data.toList.drop p)):=by
 have hl:s.data.toList.length=s.size:=rfl
 by_cases hp:p<s.size
 ·have hc:=Q6u s p hp;have hd:s.data.toList.drop p=(s[p]'hp)::s.data.toList.drop (p+1):=by
   rw[UC (by rw[hl];exact hp)]
   congr 1
  rw[hd]
  by_cases h:(s[p]'hp)=45
  ·exact .inl ⟨hp,h,by simp[Q15,h]⟩
  ·exact .inr ⟨fun _=>h,by simp[Q15,h]⟩
 ·have hd:s.data.toList.drop p=[]:=TH (by rw[hl];omega);rw[hd];exact .inr ⟨fun h=>absurd h hp,rfl⟩
theorem Qce {s:ByteArray} {p:Nat} (hp:p<s.size):s.data.toList.drop p=(s[p]'hp)::s.data.toList.drop (p+1):=by
 rw[UC (show p<s.data.toList.length from hp)]
 congr 1
theorem Qwj {s:ByteArray} {N k:Nat} {low:Bool} (hN:N<s.size) (hc:(s[N]'hN)=112) (hm:Q15 (s.data.toList.drop (N+1))=(low,s.data.toList.drop k)) (hd:k+digN (s.data.toList.drop k)=s.size) (h1:1<=digN (s.data.toList.drop k)) (h6:digN (s.data.toList.drop k)<=6) (Q3:(s.data.toList.drop k).headD 0≠48):
 Q9u (s.data.toList.drop N)=some (if low=true then -(dv (s.data.toList.drop k):Int) else (dv (s.data.toList.drop k):Int)):=by
 have hl:(s.data.toList.drop k).length=s.size-k:=by rw[Te];rfl
 rw[Qce hN,hc,Q9u,Uq (by simp),hm];simp only;rw[Uq];rintro (h|h|h|h)
 ·omega
 ·omega
 ·omega
 ·exact Q3 h
theorem Qfh {s:ByteArray} {N k:Nat} {low:Bool} (hN:N<s.size) (hc:(s[N]'hN)=112) (hm:Q15 (s.data.toList.drop (N+1))=(low,s.data.toList.drop k)) (hk:k<=s.size) (h:k+digN (s.data.toList.drop k)≠s.size∨digN (s.data.toList.drop k)<1∨6<digN (s.data.toList.drop k)∨(s.data.toList.drop k).headD 0=48):
 Q9u (s.data.toList.drop N)=none:=by
 have hl:(s.data.toList.drop k).length=s.size-k:=by rw[Te];rfl
 have o6:=Q8a (s.data.toList.drop k);rw[Qce hN,hc,Q9u,Uq (by simp),hm];simp only;rw[Us];rcases h with h|h|h|h
 ·exact .inr (.inr (.inl (by omega)))
 ·by_cases h0:s.size-k=0
  ·exact .inl (by omega)
  ·exact .inr (.inr (.inl (by omega)))
 ·exact .inr (.inl (by omega))
 ·exact .inr (.inr (.inr h))
theorem Qm8 {s:ByteArray} {at_ d i:Nat} (h:i<s.size) (h1:at_<=i) (h2:i<at_+d) (ha:Qdr ((s.data.toList.drop at_).take d)):48<=(s[i]'h).toNat/\(s[i]'h).toNat<=57:=by
 refine ha _ (Ud (i:=i-at_) ?_);rw[To,Us (by omega),Xad,show at_+(i-at_)=i by omega];exact Q6u s i h
theorem Qr7 {s:ByteArray} {at_ i:Nat} (h:i<s.size) (h1:at_<=i):dv ((s.data.toList.drop at_).take (i+1-at_))=dv ((s.data.toList.drop at_).take (i-at_))*10+((s[i]'h).toNat-48):=by
 have h2:(s.data.toList.drop at_)[i-at_]?=some (s[i]'h):=by rw[Xad,show at_+(i-at_)=i by omega];exact Q6u s i h
 rw[show i+1-at_=(i-at_)+1 by omega,Tc,h2,Option.toList_some,Qju,UG]
theorem Qfi {l:LU} {d k:Nat} (ha:Qdr (l.take d)) (hk:k<=d):dv (l.take k)<10^k:=by
 have h1:Qdr (l.take k):=fun c hc=>ha c (by
  have:l.take k=(l.take d).take k:=by rw[List.take_take,Xa9 hk]
  rw[this] at hc;exact Ty hc)
 exact Ue (Qf0 _ h1) (UR (by decide) (by rw[Tn];omega))
theorem Q7o (s:ByteArray) (w:World) (hs:s.size<=281474976710656):
 Calls Tryz.prog 123 #[.string s] w (Q6k w (Q0k s.data.toList)):=by
 have R0:s.data.toList.length=s.size:=rfl;have F2:Bw w (w.alloc (.cells #[.bool false,.int .i64 0,.slice none 0 0] 41)):=Ba;have JH:=Q02.new w (.bool false) (.int .i64 0) (.slice none 0 0) 41;have A3:=Q0r w (.cells #[.bool false,.int .i64 0,.slice none 0 0] 41);have HW:=Xh2 F2 JH;obtain ⟨S,hS⟩:∃S,s.data.toList=S:=⟨_,rfl⟩;have HS:=Xh2 hS R0;clear F2 JH hS R0
 go_enter Tryz.func123,Tryz.ntmps123
 go_upto_region 2 with fail
 go_cut [19] (fun bv wx=>∃b:Bool,bv=.bool b/\(b=true/\1<=s.size/\Q15 s.data.toList=(true,s.data.toList.drop 1)∨b=false/\Q15 s.data.toList=(false,s.data.toList.drop 0))/\w.alloc (.cells #[.bool false,.int .i64 0,.slice none 0 0] 41)=wx)
 case first=>
  by_cases h0:0<s.size
  ·have Wr:(0:Int)<(s.size:Int):=by omega
   by_cases Z6:(s[0]'h0)=45
   ·have h45':(((s[0]'h0).toNat:Int)==45)=true:=(by rw[Z6];rfl);have HM:=Ua (show Q15 s.data.toList=(true,s.data.toList.drop 1) from by
     rcases Qfg s with ⟨_,_,h⟩|⟨h,_⟩
     ·exact h
     ·exact absurd Z6 (h h0))
    clear Z6
    go_wp2_with fail
    go_meet;exact ⟨true,rfl,.inl ⟨rfl,h0,HM.out⟩,rfl⟩
   ·have h45':(((s[0]'h0).toNat:Int)==45)=false:=(by rw[Ui];intro e;exact Z6 (TM.1 (show (s[0]'h0).toNat=45 by omega)));have HM:=Ua (show Q15 s.data.toList=(false,s.data.toList.drop 0) from by
     rcases Qfg s with ⟨_,h,_⟩|⟨_,h⟩
     ·exact absurd h Z6
     ·exact h)
    clear Z6
    go_wp2_with fail
    go_meet;exact ⟨false,rfl,.inr ⟨rfl,HM.out⟩,rfl⟩
  ·have Wr:¬(0:Int)<(s.size:Int):=(by omega);have HM:=Ua (show Q15 s.data.toList=(false,s.data.toList.drop 0) from by
    rcases Qfg s with ⟨h,_⟩|⟨_,h⟩
    ·exact absurd h h0
    ·exact h)
   go_wp2_with fail
   go_meet;exact ⟨false,rfl,.inr ⟨rfl,HM.out⟩,rfl⟩
 case rest=>
  obtain ⟨b,rfl,Kk,rfl⟩:=hcut;have HMB:=Ua Kk;clear Kk
  go_upto_if 19 with fail
  go_cut [4,5] (fun av nv wx=>∃(at_:Nat) (neg:Bool),av=.int .i64 (at_:Int)/\nv=.bool neg/\at_<=s.size/\Q15 s.data.toList=(neg,s.data.toList.drop at_)/\w.alloc (.cells #[.bool false,.int .i64 0,.slice none 0 0] 41)=wx)
  case first=>
   cases b
   ·go_wp2_with fail
    go_meet;refine ⟨0,false,rfl,rfl,Uu _,?_,rfl⟩;rcases HMB.out with ⟨h,_⟩|⟨_,h⟩
    ·cases h
    ·exact h
   ·go_wp2_with fail
    go_meet;rcases HMB.out with ⟨_,h1,h⟩|⟨h,_⟩
    ·exact ⟨1,true,rfl,rfl,h1,h,rfl⟩
    ·cases h
  case rest=>
   clear HMB;obtain ⟨at_,neg,rfl,rfl,R1,Qz,rfl⟩:=hcut;have Vu:=Q8a (s.data.toList.drop at_);rw[Te,(Xe1 HS)] at Vu;have QH:=Qgm s at_ 1300 (w.alloc (.cells #[.bool false,.int .i64 0,.slice none 0 0] 41)) hs R1 (by decide);have d6:form s.data.toList=form s.data.toList:=rfl
   conv at d6=>rhs;unfold form
   rw[Qz] at d6;simp only at d6;have XC:=Q59 (s.data.toList.drop at_);unfold cnt at QH;obtain ⟨d,hd⟩:∃d,digN (s.data.toList.drop at_)=d:=⟨_,rfl⟩;rw[hd] at Vu QH d6 XC
   by_cases O6:d<1∨1300<d∨((s.data.toList.drop at_).headD 0=48/\1<d)
   ·have hF:form s.data.toList=none:=by
     rw[d6,Us];rcases O6 with h|h|⟨h1,h2⟩
     ·exact .inl h
     ·exact .inr (.inl h)
     ·exact .inr (.inr ⟨h1,.inr (by rw[Te,(Xe1 HS)];omega)⟩)
    rw[Us O6] at QH;have HC:=Ua QH;have HF:=Ua hF;clear QH d6 XC O6 hF Qz hd
    go_wp2_with (refine HC.out.mono ?_;rintro e w1 ⟨rfl,rfl⟩)
    have k0:=(Xe1 HW).c0;have k1:=(Xe1 HW).c1;have k2:=(Xe1 HW).c2;have M0:=(Xo0 HW);generalize w.alloc _=W5 at k0 k1 k2 M0⊢;refine ⟨rfl,.tuple #[.agg #[.bool false,.int .i64 0,.slice none 0 0],.int .i64 5],by simp[results,go_sem,k0,k1,k2],Q6k.of (Q0k.none_ HF.out) (WordsIn.nil_ _) M0⟩
   ·rw[Uq O6] at QH;have has:at_<s.size:=(by omega);have T8:=Qbw has;rw[T8] at O6 d6;obtain ⟨N,hN⟩:∃N,at_+d=N:=⟨_,rfl⟩;rw[hN] at QH;have HC:=Ua QH;have HF0:=Ua d6;have HTA:=Xh3 XC Qz hd;have Yv:=Ua O6;have I5:N<=s.size:=(by omega);have K2:d<=1300:=(by omega);have M2:1<=d:=(by omega);clear QH d6 XC O6 Qz hd T8
    by_cases Wp:neg=true/\(s[at_]'has)=48
    ·obtain ⟨rfl,Q3⟩:=Wp;have QC:(((s[at_]'has).toNat:Int)==48)=true:=(by rw[Q3];rfl);have hF:form s.data.toList=none:=by
      rw[HF0.out,Us (.inr (.inr ⟨Q3,.inl rfl⟩))]
     have HF:=Ua hF;clear hF Q3
     go_wp2_with (refine HC.out.mono ?_;rintro e w1 ⟨rfl,rfl⟩)
     have k0:=(Xe1 HW).c0;have k1:=(Xe1 HW).c1;have k2:=(Xe1 HW).c2;have M0:=(Xo0 HW);generalize w.alloc _=W5 at k0 k1 k2 M0⊢;refine ⟨rfl,.tuple #[.agg #[.bool false,.int .i64 0,.slice none 0 0],.int .i64 5],by simp[results,go_sem,k0,k1,k2],Q6k.of (Q0k.none_ HF.out) (WordsIn.nil_ _) M0⟩
    ·have HNZ:=Ua Wp;clear Wp
     go_upto_region 4 with fail
     go_cut [6] (fun v wx=>v=.int .i64 (N:Int)/\w.alloc (.cells #[.bool false,.int .i64 0,.slice none 0 0] 41)=wx)
     case first=>
      go_wp2_with (refine HC.out.mono ?_;rintro e w1 ⟨rfl,rfl⟩)
      go_meet;exact ⟨rfl,rfl⟩
     obtain ⟨rfl,rfl⟩:=hcut
     go_upto_region 5 with fail
     go_cut [33] (fun v wx=>v=.bool false/\w.alloc (.cells #[.bool false,.int .i64 0,.slice none 0 0] 41)=wx)
     case first=>
      cases neg
      ·go_wp2_with fail
       go_meet;exact ⟨rfl,rfl⟩
      ·have QC:(((s[at_]'has).toNat:Int)==48)=false:=by rw[Ui];intro e;exact HNZ.out ⟨rfl,TM.1 (show (s[at_]'has).toNat=48 by omega)⟩
       go_wp2_with fail
       go_meet;exact ⟨rfl,rfl⟩
     case rest=>
      obtain ⟨rfl,rfl⟩:=hcut;clear HC
      go_wp2_with fail
      go_loopw [7,8] (fun mv iv wr=>∃(i:Nat) (a:OA) (n c:Nat),mv=.slice a n c/\iv=.int .i64 (i:Int)/\at_<=i/\i<=N/\Q0n wr a n c (dv ((s.data.toList.drop at_).take (i-at_)))/\Below (w.alloc (.cells #[.bool false,.int .i64 0,.slice none 0 0] 41)).heap.size (w.alloc (.cells #[.bool false,.int .i64 0,.slice none 0 0] 41)) wr) (fun _ iv _=>N-(intOf iv).toNat)
      case atStart=>exact ⟨at_,none,0,0,rfl,rfl,Ug _,by omega,by rw[Xbp];exact Q0n.nil_ _,Uf _ _⟩
      case round=>
       obtain ⟨i,am,nm,cm,rfl,rfl,Wn,hi2,hD,hb⟩:=hrel
       by_cases B0:i<N
       ·have E0:(i:Int)<(N:Int):=(by omega);have his:i<s.size:=(by omega);have hisI:(i:Int)<(s.size:Int):=(by omega);have x4:=Qm8 (s:=s) (at_:=at_) (d:=d) (i:=i) his Wn (by omega) (Xo0 HTA);have T6:=Qr7 (s:=s) (at_:=at_) (i:=i) his Wn;have hvb:=Qfi (l:=s.data.toList.drop at_) (d:=d) (k:=i-at_) (Xo0 HTA) (by omega);generalize dv ((s.data.toList.drop at_).take (i-at_))=v at*;obtain ⟨q,hq⟩:∃q,(s[i]'his).toNat-48=q:=⟨_,rfl⟩;rw[hq] at T6;have hq9:q<=9:=(by omega);have hcq:((s[i]'his).toNat:Int)-48=(q:Int):=(by omega);have hnm:nm<=1300:=(by rw[<-hD.len];exact Ur (Q6y hvb) (by omega));have hn10:(dig (2^32) (v*10)).length<=1301:=Ur (Q6y (k:=i-at_+1) (by rw[Th];omega)) (by omega);have HD:=Xh4 hD hb T6 hn10;clear hD hb T6 hn10 hvb hq x4;have K4:IntKind.u8.wrap (q:Int)=(q:Int):=(by rw[Xat];omega);have Q8:IntKind.u32.wrap (q:Int)=(q:Int):=by rw[IntKind.wrap_u32];omega
        go_upto_region 11 with fail
        refine Qby (by kernel_rfl) (fun W=>Bw wr W) (fun _ _ h h'=>Below.next0 h h') (Q3x [.slice am nm cm,undef,undef,.string s,.int .i64 (i:Int),.int .u8 ((s[i]'his).toNat:Int),.int .u8 (q:Int),.int .u32 (q:Int)] (Qvy v q)) (Qpy (Qn7 v q)) (by kernel_rfl) (Q6x (Uf _ _)) ?_ ?_
        ·refine ⟨fun a W und hW F0 A0 hu Zn Zw=>?_,?_⟩
         ·have u2:=Zn 2 _ rfl ⟨0,by decide,hu⟩;have u10:=Zn 10 _ rfl ⟨2,by decide,u2⟩;have u11:=Zn 11 _ rfl ⟨10,by decide,u10⟩;have e7:a.tmps[7]?.getD undef=.slice am nm cm:=(by rw[Zw 11 _ 7 rfl u11 rfl];rfl);refine Q4l rfl ?_;refine Q6w (u:=.slice am nm cm) ?_ ((Q09 rfl).2 rfl);simp[go_sem,e7]
         refine ⟨fun a W und hW F0 A0 hu Zn Zw=>?_,?_⟩
         ·refine Q4l rfl ?_;refine Qds (w':=W.alloc (.cells #[.int .u32 10] 152)) (u:=.slice (some ⟨W.heap.size,0,none⟩) 1 1) (by simp[go_sem]) (Ba) ((Q00 rfl).2 ⟨_,_,_,rfl,Qvx W _⟩)
         refine ⟨fun a W und hW F0 A0 hu Zn Zw=>?_,?_⟩
         ·have e41:a.tmps[41]?.getD undef=.slice am nm cm:=Q1f ((Q09 rfl).1 (A0 0 (by decide)));obtain ⟨a1,n1,c1,e0,K2⟩:=(Q00 rfl).1 (A0 1 (by decide));have e42:a.tmps[42]?.getD undef=.slice a1 n1 c1:=Q1f e0;have p6:n1=1:=(by rw[<-K2.len,Q3e (by decide) (by decide)];rfl);refine Q4l rfl ?_;refine Qbx (f:=63) (args:= #[.slice am nm cm,.slice a1 n1 c1]) (by simp[go_sem,e41,e42]) ((Qdo am nm cm v a1 n1 c1 10 W ⟨(Xo0 HD).len,(Xo0 HD).cap,(Xo0 HD).most,((Xo0 HD).rd.below hW).more hW.size⟩ K2 (by omega) (by omega)).mono ?_);rintro e W' ⟨a2,n2,rfl,Jo,D0⟩;exact ⟨_,rfl,D0,(Q00 rfl).2 ⟨_,_,_,rfl,Jo⟩⟩
         refine ⟨fun a W und hW F0 A0 hu Zn Zw=>?_,?_⟩
         ·have e0:a.tmps[0]?.getD undef=.string s:=Q1f (F0.keep (t:=0) (by kernel_rfl) rfl);refine Q4l rfl ?_;refine Q6w (u:=.string s) ?_ ((Q09 rfl).2 rfl);simp[go_sem,e0]
         refine ⟨fun a W und hW F0 A0 hu Zn Zw=>?_,?_⟩
         ·have e8:a.tmps[8]?.getD undef=.int .i64 (i:Int):=Q1f (F0.keep (t:=8) (by kernel_rfl) rfl);refine Q4l rfl ?_;refine Q6w (u:=.int .i64 (i:Int)) ?_ ((Q09 rfl).2 rfl);simp[go_sem,e8]
         refine ⟨fun a W und hW F0 A0 hu Zn Zw=>?_,?_⟩
         ·have e44:a.tmps[44]?.getD undef=.string s:=Q1f ((Q09 rfl).1 (A0 3 (by decide)));have e45:a.tmps[45]?.getD undef=.int .i64 (i:Int):=Q1f ((Q09 rfl).1 (A0 4 (by decide)));refine Q4l rfl ?_;refine Q6w (u:=.int .u8 ((s[i]'his).toNat:Int)) ?_ ((Q09 rfl).2 rfl);simp[go_sem,e44,e45,his]
         refine ⟨fun a W und hW F0 A0 hu Zn Zw=>?_,?_⟩
         ·have e46:a.tmps[46]?.getD undef=.int .u8 ((s[i]'his).toNat:Int):=Q1f ((Q09 rfl).1 (A0 5 (by decide)));refine Q4l rfl ?_;refine Q6w (u:=.int .u8 (q:Int)) ?_ ((Q09 rfl).2 rfl);simp[go_sem,e46,hcq,K4]
         refine ⟨fun a W und hW F0 A0 hu Zn Zw=>?_,?_⟩
         ·have e47:a.tmps[47]?.getD undef=.int .u8 (q:Int):=Q1f ((Q09 rfl).1 (A0 6 (by decide)));refine Q4l rfl ?_;refine Q6w (u:=.int .u32 (q:Int)) ?_ ((Q09 rfl).2 rfl);simp[go_sem,e47,Q8]
         refine ⟨fun a W und hW F0 A0 hu Zn Zw=>?_,?_⟩
         ·have e48:a.tmps[48]?.getD undef=.int .u32 (q:Int):=Q1f ((Q09 rfl).1 (A0 7 (by decide)));refine Q4l rfl ?_;refine Qds (w':=W.alloc (.cells #[.int .u32 (q:Int)] 152)) (u:=.slice (some ⟨W.heap.size,0,none⟩) 1 1) (by simp[go_sem,e48]) (Ba) ((Q00 rfl).2 ⟨_,rfl,Qq0 W q _⟩)
         refine ⟨fun a W und hW F0 A0 hu Zn Zw=>?_,?_⟩
         ·obtain ⟨g1,e0,A1⟩:=(Q00 rfl).1 (A0 8 (by decide));have e49:a.tmps[49]?.getD undef=.slice (some ⟨g1,0,none⟩) 1 1:=Q1f e0;refine Q4l rfl ?_;refine Qbx (f:=103) (args:= #[.slice (some ⟨g1,0,none⟩) 1 1]) (by simp[go_sem,e49]) ((Qjw _ q W hq9 A1).mono ?_);rintro e W' ⟨n2,rfl,_,Jo,rfl⟩;exact ⟨_,rfl,Uf _ _,(Q00 rfl).2 ⟨_,_,_,rfl,Jo⟩⟩
         refine ⟨fun a W und hW F0 A0 hu Zn Zw=>?_,?_⟩
         ·obtain ⟨a1,n1,c1,e0,K2⟩:=(Q00 rfl).1 (A0 2 (by decide));have e43:a.tmps[43]?.getD undef=.slice a1 n1 c1:=Q1f e0;obtain ⟨a2,n2,c2,e1,M2⟩:=(Q00 rfl).1 (A0 9 (by decide));have e50:a.tmps[50]?.getD undef=.slice a2 n2 c2:=Q1f e1;have p6:n1<=1301:=(by rw[<-K2.len];exact (Xe3 HD));have R5:n2<=1:=(by rw[<-M2.len];exact Q6y (k:=1) (by omega));refine Q4l rfl ?_;refine Qbx (f:=59) (args:= #[.slice a1 n1 c1,.slice a2 n2 c2]) (by simp[go_sem,e43,e50]) ((Qdn a1 n1 c1 (v*10) a2 n2 c2 q W K2 M2 (by omega) (by omega)).mono ?_);rintro e W' ⟨a3,n3,rfl,hD3,G0⟩;exact ⟨_,rfl,G0,(Q00 rfl).2 ⟨_,_,_,rfl,hD3⟩⟩
         refine ⟨fun a W und hW F0 A0 hu Zn Zw=>?_,?_⟩
         ·obtain ⟨a1,n1,c1,e0,K2⟩:=(Q00 rfl).1 (A0 10 (by decide));have e51:a.tmps[51]?.getD undef=.slice a1 n1 c1:=Q1f e0;refine Q4l rfl ?_;refine Q6w (u:=.slice a1 n1 c1) ?_ ((Q00 rfl).2 ⟨_,_,_,rfl,K2⟩);simp[go_sem,e51]
         exact trivial
        ·intro vs W1 S1 C3;obtain ⟨a5,n5,c5,v11,hD5⟩:=(Q00 rfl).1 (C3 11 (by decide));simp only[Q0s,Act.put,Uw,UK,UJ];rw[v11];have Kj:=Xh2 S1 hD5;clear S1 C3 v11 hD5
         go_wp2_with fail
         refine ⟨⟨i+1,a5,n5,c5,rfl,by simp,by omega,by omega,by rw[(Xo2 HD)];exact (Xe1 Kj),Below.next0 (Xo1 HD) (Xo0 Kj)⟩,by simp only[intOf];omega⟩
       ·skip;obtain rfl:i=N:=(by omega);have E0:¬((i:Int)<(i:Int)):=(by omega);rw[show i-at_=d by omega] at hD;have hvb:dv ((s.data.toList.drop at_).take d)<10^d:=Qfi (Xo0 HTA) (Ug _);have hnm:nm<=1300:=(by rw[<-hD.len];exact Ur (Q6y hvb) K2);have XX:((s[at_]'has)≠48∨i=s.size)->form s.data.toList=match Q9u (s.data.toList.drop i) with|none=>none|some e=>some (neg,dv ((s.data.toList.drop at_).take d),e):=fun h=>by
         have hng:¬(d<1∨1300<d∨(s[at_]'has)=48/\(neg=true∨1<(s.data.toList.drop at_).length)):=by
          rintro (h1|h1|⟨Q3,h1|h1⟩)
          ·exact Yv.out (.inl h1)
          ·exact Yv.out (.inr (.inl h1))
          ·exact HNZ.out ⟨h1,Q3⟩
          ·rcases h with h|h
           ·exact h Q3
           ·rw[Te,(Xe1 HS)] at h1;exact Yv.out (.inr (.inr ⟨Q3,by omega⟩))
         rw[HF0.out,Uq hng,List.drop_drop,hN]
         first|done|rfl
        have WR:(s[at_]'has)=48->i<s.size->form s.data.toList=none:=fun Q3 h=>by
         rw[HF0.out,Us (.inr (.inr ⟨Q3,.inr (by rw[Te,(Xe1 HS)];omega)⟩))]
        have XA:=(Xe1 HW).step hb A3;have hnl:w.heap.size<wr.heap.size:=Ue A3 hb.size;have N0:Bw w wr:=Below.next0 (Xo0 HW) hb;obtain ⟨v,hv⟩:∃v,dv ((s.data.toList.drop at_).take d)=v:=⟨_,rfl⟩;rw[hv] at hD XX;have HN:=Xh3 XA hnl N0;have Qo:=Xh2 (XA.store (.bool false) (.int .i64 0) (.slice none 0 0)) (Q02.below N0 (Ug _) (.bool false) (.int .i64 0) (.slice none 0 0));have Y3:=XA.c0;have N1:=XA.c1;have E1:=XA.c2;have Q4:=XA.f0;have O2:=XA.f1;have X2:=XA.f2;have L4:=XA.d1 (.bool false);have K3:=XA.d2 (.bool false) (.int .i64 0);have HD:=Xh2 hD hb;have KA:=Xh2 XX WR;clear hD hb hv hvb XX WR XA hnl N0 HF0 HTA Wn hi2 B0 Yv HNZ
        by_cases Z1:i=s.size
        ·have hF:form s.data.toList=some (neg,v,0):=by
          rw[(Xo0 KA) (.inr Z1),TH (by rw[(Xe1 HS)];omega)];rfl
         have HF:=Ua hF;have hszI:((i:Int)==(s.size:Int))=true:=(by rw[Z1];simp);clear hF Y3 N1 E1 Q4 O2 X2 L4 K3 Qo
         go_wp2_with (first
          |(go_at_call_of 58 neg;refine (Q41 neg am nm cm v 0 _ (Xo0 HD) (by omega) (by omega) (by omega)).mono ?_;rintro r w3 ⟨neg1,a1,n1,c1,v1,e1,rfl,ho,Xh,p6,JF,he3,G0⟩;have D2:=Xh3 ho Xh G0;clear ho Xh G0)
          |(refine (Q52 neg1 a1 n1 c1 v1 e1 _ (Xo1 D2) (by omega)).mono ?_;rintro r w4 ⟨neg2,e2,a2,n2,c2,L,er,rfl,ZY,q6,F1⟩;
            have Qj:=Below.next0 (Xe2 D2) F1;have U0:=(Xo0 HN).step Qj (Xo1 HN);have Y3:=U0.c0;have N1:=U0.c1;have E1:=U0.c2;have Q4:=U0.f0;have O2:=U0.f1;have X2:=U0.f2;have L4:=U0.d1 (.bool neg2);have K3:=U0.d2 (.bool neg2) (.int .i64 e2);have N3:=Xh4 U0 (Below.next0 (Xe2 HN) Qj) q6 ZY;clear U0 F1 Qj q6 ZY))
         have I4:=(Xo0 N3).store (.bool neg2) (.int .i64 e2) (.slice a2 n2 c2);have k0:=I4.c0;have k1:=I4.c1;have k2:=I4.c2;have M0:=Q02.below (Xo1 N3) (Ug _) (.bool neg2) (.int .i64 e2) (.slice a2 n2 c2);have C6:=(Xo2 N3);have U6:WordsIn _ a2 n2 c2 L:=⟨C6.len,C6.cap,C6.most,C6.low,(C6.rd.store3 (Xo0 N3) (fun _=>by simp[nv]) (fun _=>by simp[nv]) (fun _=>by simp[nv]) (.bool neg2) (.int .i64 e2) (.slice a2 n2 c2)).more (Q18 _ _ _ _ _)⟩;clear I4 Y3 N1 E1 Q4 O2 X2 L4 K3 C6;generalize World.setCell _ _ _=W5 at k0 k1 k2 M0 U6⊢;refine ⟨rfl,.tuple #[.agg #[.bool neg2,.int .i64 e2,.slice a2 n2 c2],.int .i64 er],by simp[results,go_sem,k0,k1,k2],Q6k.of (Q0k.some_ HF.out (Qbe (Xo0 D2) (Xe3 N3))) U6 M0⟩
        ·have hszI:((i:Int)==(s.size:Int))=false:=(by rw[Ui];omega);have G4:i<s.size:=(by omega);have hlt2I:(i:Int)<(s.size:Int):=by omega
         by_cases hp:(s[i]'G4)=112
         ·have YW:(((s[i]'G4).toNat:Int) != 112)=false:=by rw[hp];rfl
          by_cases Q3:(s[at_]'has)=48
          ·have QC:(((s[at_]'has).toNat:Int)==48)=true:=(by rw[Q3];rfl);have HF:=Ua ((Xe1 KA) Q3 G4);clear Q3 hp
           go_wp2_with fail
           have k0:=(Xo0 Qo).c0;have k1:=(Xo0 Qo).c1;have k2:=(Xo0 Qo).c2;have M0:=(Xe1 Qo);clear Y3 N1 E1 Q4 O2 X2 L4 K3;generalize World.setCell _ _ _=W5 at k0 k1 k2 M0⊢;refine ⟨rfl,.tuple #[.agg #[.bool false,.int .i64 0,.slice none 0 0],.int .i64 5],by simp[results,go_sem,k0,k1,k2],Q6k.of (Q0k.none_ HF.out) (WordsIn.nil_ _) M0⟩
          ·have QC:(((s[at_]'has).toNat:Int)==48)=false:=(by rw[Ui];intro e;exact Q3 (TM.1 (show (s[at_]'has).toNat=48 by omega)));have YT:=Xh2 ((Xo0 KA) (.inl Q3)) hp;clear Q3 hp KA
           go_upto_region 17 with fail
           go_cut [84] (fun bv wx=>∃b:Bool,bv=.bool b/\(b=true/\i+2<=s.size/\Q15 (s.data.toList.drop (i+1))=(true,s.data.toList.drop (i+2))∨b=false/\Q15 (s.data.toList.drop (i+1))=(false,s.data.toList.drop (i+1)))/\wr=wx)
           case first=>
            by_cases h0:i+1<s.size
            ·have Wr:(i:Int)+1<(s.size:Int):=by omega
             by_cases Z6:(s[i+1]'h0)=45
             ·have h45':(((s[i+1]'h0).toNat:Int)==45)=true:=(by rw[Z6];rfl);have HM:=Ua (show Q15 (s.data.toList.drop (i+1))=(true,s.data.toList.drop (i+2)) from by
               rcases Qaa s (i+1) with ⟨_,_,h⟩|⟨h,_⟩
               ·exact h
               ·exact absurd Z6 (h h0))
              clear Z6
              go_wp2_with fail
              go_meet;exact ⟨true,rfl,.inl ⟨rfl,h0,HM.out⟩,rfl⟩
             ·have h45':(((s[i+1]'h0).toNat:Int)==45)=false:=(by rw[Ui];intro e;exact Z6 (TM.1 (show (s[i+1]'h0).toNat=45 by omega)));have HM:=Ua (show Q15 (s.data.toList.drop (i+1))=(false,s.data.toList.drop (i+1)) from by
               rcases Qaa s (i+1) with ⟨_,h,_⟩|⟨_,h⟩
               ·exact absurd h Z6
               ·exact h)
              clear Z6
              go_wp2_with fail
              go_meet;exact ⟨false,rfl,.inr ⟨rfl,HM.out⟩,rfl⟩
            ·have Wr:¬(i:Int)+1<(s.size:Int):=(by omega);have HM:=Ua (show Q15 (s.data.toList.drop (i+1))=(false,s.data.toList.drop (i+1)) from by
              rcases Qaa s (i+1) with ⟨h,_⟩|⟨_,h⟩
              ·exact absurd h h0
              ·exact h)
             go_wp2_with fail
             go_meet;exact ⟨false,rfl,.inr ⟨rfl,HM.out⟩,rfl⟩
           obtain ⟨b2,rfl,hmb2,rfl⟩:=hcut;have HMB2:=Ua hmb2;clear hmb2
           go_upto_if 84 with fail
           go_cut [9,10] (fun kv lv wx=>∃(k:Nat) (low:Bool),kv=.int .i64 (k:Int)/\lv=.bool low/\k<=s.size/\Q15 (s.data.toList.drop (i+1))=(low,s.data.toList.drop k)/\wr=wx)
           case first=>
            cases b2
            ·go_wp2_with fail
             go_meet;refine ⟨i+1,false,by simp,rfl,G4,?_,rfl⟩;rcases HMB2.out with ⟨h,_⟩|⟨_,h⟩
             ·cases h
             ·exact h
            ·go_wp2_with fail
             go_meet;rcases HMB2.out with ⟨_,h1,h⟩|⟨h,_⟩
             ·exact ⟨i+2,true,by simp only[Xaz,true_and];omega,rfl,h1,h,rfl⟩
             ·cases h
           obtain ⟨k,low,rfl,rfl,hk,U3,rfl⟩:=hcut;clear HMB2;have QH:=Qgm s k 6 wr hs hk (by decide);unfold cnt at QH;have Xg:=Q8a (s.data.toList.drop k);rw[Te,(Xe1 HS)] at Xg;have KL:=Q59 (s.data.toList.drop k);have HMK:=Ua U3;clear U3;have XJ:=(Xo0 YT)
           by_cases O6:digN (s.data.toList.drop k)<1∨6<digN (s.data.toList.drop k)∨((s.data.toList.drop k).headD 0=48/\1<digN (s.data.toList.drop k))
           ·have hF:form s.data.toList=none:=by
             rw[XJ,Qfh G4 (Xe1 YT) HMK.out hk (by rcases O6 with h|h|h;exact .inr (.inl h);exact .inr (.inr (.inl h));exact .inr (.inr (.inr h.1)))]
            rw[Us O6] at QH;have HC:=Ua QH;have HF:=Ua hF;have C1:((-1:Int) != (s.size:Int))=true:=(by rw[bne_iff_ne];omega);clear QH hF O6 XJ KL YT
            go_wp2_with (refine HC.out.mono ?_;rintro r w1 ⟨rfl,rfl⟩)
            have k0:=(Xo0 Qo).c0;have k1:=(Xo0 Qo).c1;have k2:=(Xo0 Qo).c2;have M0:=(Xe1 Qo);clear Y3 N1 E1 Q4 O2 X2 L4 K3;generalize World.setCell _ _ _=W5 at k0 k1 k2 M0⊢;refine ⟨rfl,.tuple #[.agg #[.bool false,.int .i64 0,.slice none 0 0],.int .i64 5],by simp[results,go_sem,k0,k1,k2],Q6k.of (Q0k.none_ HF.out) (WordsIn.nil_ _) M0⟩
           ·rw[Uq O6] at QH;obtain ⟨d2,hd⟩:∃d2,digN (s.data.toList.drop k)=d2:=⟨_,rfl⟩;rw[hd] at QH Xg KL O6;obtain ⟨T,hT⟩:∃T,k+d2=T:=⟨_,rfl⟩;rw[hT] at QH;have HC:=Ua QH
            by_cases hfull:k+d2=s.size
            ·have Ki:k<s.size:=(by omega);have hksI:(k:Int)<(s.size:Int):=(by omega);have Kz:((T:Int) != (s.size:Int))=false:=(by rw[<-hT,hfull];simp);have T8:=Qbw Ki
             by_cases h48k:(s[k]'Ki)=48
             ·have h48k':(((s[k]'Ki).toNat:Int)==48)=true:=(by rw[h48k];rfl);have hF:form s.data.toList=none:=by
               rw[XJ,Qfh G4 (Xe1 YT) HMK.out hk (.inr (.inr (.inr (by rw[T8];exact h48k))))]
              have HF:=Ua hF;clear QH hF O6 XJ KL YT h48k T8 hfull hT
              go_wp2_with (refine HC.out.mono ?_;rintro r w1 ⟨rfl,rfl⟩)
              have k0:=(Xo0 Qo).c0;have k1:=(Xo0 Qo).c1;have k2:=(Xo0 Qo).c2;have M0:=(Xe1 Qo);clear Y3 N1 E1 Q4 O2 X2 L4 K3;generalize World.setCell _ _ _=W5 at k0 k1 k2 M0⊢;refine ⟨rfl,.tuple #[.agg #[.bool false,.int .i64 0,.slice none 0 0],.int .i64 5],by simp[results,go_sem,k0,k1,k2],Q6k.of (Q0k.none_ HF.out) (WordsIn.nil_ _) M0⟩
             ·have h48k':(((s[k]'Ki).toNat:Int)==48)=false:=(by rw[Ui];intro e;exact h48k (TM.1 (show (s[k]'Ki).toNat=48 by omega)));have D3:=Qwj G4 (Xe1 YT) HMK.out (by rw[hd];exact hfull) (by rw[hd];omega) (by rw[hd];omega) (by rw[T8];exact h48k);rw[D3] at XJ;have hd6:d2<=6:=(by omega);have HEX:=Ua XJ;have hta3:Qdr ((s.data.toList.drop k).take d2):=KL;have HT2:=Ua hta3;have hfd:(s.data.toList.drop k).take d2=s.data.toList.drop k:=UA (by rw[Te,(Xe1 HS)];omega);have HFD:=Xh2 hfd hfull;clear hT;clear QH O6 XJ KL hta3 YT h48k T8 D3 hfd
              go_wp2_with (refine HC.out.mono ?_;rintro r w1 ⟨rfl,rfl⟩)
              clear Y3 N1 E1 Q4 O2 X2 L4 K3 Qo HC Kz
              go_loopw [9,11] (fun kv ev wz=>∃(j E:Nat),kv=.int .i64 (j:Int)/\ev=.int .i64 (E:Int)/\k<=j/\j<=s.size/\dv ((s.data.toList.drop k).take (j-k))=E/\wr=wz) (fun kv _ _=>s.size-(intOf kv).toNat)
              case atStart=>exact ⟨k,0,rfl,rfl,Ug _,hk,by rw[Xbp];rfl,rfl⟩
              case round=>
               obtain ⟨j,E,rfl,rfl,hj1,hj2,hE,rfl⟩:=hrel;have hEb:E<10^(j-k):=by
                rw[<-hE];exact Qfi HT2.out (by have:=(Xe1 HFD);omega)
               have hE6I:(E:Int)<1000000:=by
                have h6:10^(j-k)<=10^6:=UR (by decide) (by have:=(Xe1 HFD);omega);have h7:(10:Nat)^6=1000000:=rfl;rw[h7] at h6;have h8:=Ue hEb h6;omega
               by_cases Wo:j<s.size
               ·have hljI:(j:Int)<(s.size:Int):=(by omega);have ZA:=Qm8 (s:=s) (at_:=k) (d:=d2) (i:=j) Wo hj1 (by have:=(Xe1 HFD);omega) HT2.out;have T6:=Qr7 (s:=s) (at_:=k) (i:=j) Wo hj1;rw[hE] at T6;obtain ⟨q,hq⟩:∃q,(s[j]'Wo).toNat-48=q:=⟨_,rfl⟩;rw[hq] at T6;have hq9:q<=9:=(by omega);have hcq:((s[j]'Wo).toNat:Int)-48=(q:Int):=(by omega);obtain ⟨E2,Ka⟩:∃E2,E*10+q=E2:=⟨_,rfl⟩;rw[Ka] at T6;have hEI:10*(E:Int)+(q:Int)=(E2:Int):=(by omega);have hE2I:(E2:Int)<=10000000:=(by omega);have hq9I:(q:Int)<=9:=(by omega);have K4:IntKind.u8.wrap (q:Int)=(q:Int):=(by rw[Xat];omega);have HX:=Ua T6;clear T6 Ka hq hE hEb ZA
                go_wp2_with fail
                exact ⟨⟨j+1,E2,by simp,rfl,by omega,by omega,HX.out,trivial⟩,by simp only[intOf];omega⟩
               ·obtain rfl:s.size=j:=(by omega);have hljI:¬((s.size:Int)<(s.size:Int)):=(by omega);have hEk:E=dv (s.data.toList.drop k):=by
                 rw[<-hE,show s.size-k=d2 by have:=(Xe1 HFD);omega,(Xo0 HFD)]
                have XJ:=HEX.out;rw[<-hEk] at XJ;clear HEX hE hEb hEk;cases low
                ·have HEX:=Ua (show form s.data.toList=some (neg,v,(E:Int)) from XJ);clear XJ
                 go_wp2_with (first
                  |(go_at_call_of 58 neg;refine (Q41 neg am nm cm v (E:Int) _ (Xo0 HD) (by omega) (by omega) (by omega)).mono ?_;rintro r w3 ⟨neg1,a1,n1,c1,v1,e1,rfl,ho,Xh,p6,JF,he3,G0⟩;have D2:=Xh3 ho Xh G0;clear ho Xh G0)
                  |(refine (Q52 neg1 a1 n1 c1 v1 e1 _ (Xo1 D2) (by omega)).mono ?_;rintro r w4 ⟨neg2,e2,a2,n2,c2,L,er,rfl,ZY,q6,F1⟩;
                    have Qj:=Below.next0 (Xe2 D2) F1;have U0:=(Xo0 HN).step Qj (Xo1 HN);have Y3:=U0.c0;have N1:=U0.c1;have E1:=U0.c2;have Q4:=U0.f0;have O2:=U0.f1;have X2:=U0.f2;have L4:=U0.d1 (.bool neg2);have K3:=U0.d2 (.bool neg2) (.int .i64 e2);have N3:=Xh4 U0 (Below.next0 (Xe2 HN) Qj) q6 ZY;clear U0 F1 Qj q6 ZY))
                 have I4:=(Xo0 N3).store (.bool neg2) (.int .i64 e2) (.slice a2 n2 c2);have k0:=I4.c0;have k1:=I4.c1;have k2:=I4.c2;have M0:=Q02.below (Xo1 N3) (Ug _) (.bool neg2) (.int .i64 e2) (.slice a2 n2 c2);have C6:=(Xo2 N3);have U6:WordsIn _ a2 n2 c2 L:=⟨C6.len,C6.cap,C6.most,C6.low,(C6.rd.store3 (Xo0 N3) (fun _=>by simp[nv]) (fun _=>by simp[nv]) (fun _=>by simp[nv]) (.bool neg2) (.int .i64 e2) (.slice a2 n2 c2)).more (Q18 _ _ _ _ _)⟩;clear I4 Y3 N1 E1 Q4 O2 X2 L4 K3 C6;generalize World.setCell _ _ _=W5 at k0 k1 k2 M0 U6⊢;refine ⟨rfl,.tuple #[.agg #[.bool neg2,.int .i64 e2,.slice a2 n2 c2],.int .i64 er],by simp[results,go_sem,k0,k1,k2],Q6k.of (Q0k.some_ HEX.out (Qbe (Xo0 D2) (Xe3 N3))) U6 M0⟩
                ·have HEX:=Ua (show form s.data.toList=some (neg,v,-(E:Int)) from XJ);clear XJ
                 go_wp2_with (first
                  |(go_at_call_of 58 neg;refine (Q41 neg am nm cm v (-(E:Int)) _ (Xo0 HD) (by omega) (by omega) (by omega)).mono ?_;rintro r w3 ⟨neg1,a1,n1,c1,v1,e1,rfl,ho,Xh,p6,JF,he3,G0⟩;have D2:=Xh3 ho Xh G0;clear ho Xh G0)
                  |(refine (Q52 neg1 a1 n1 c1 v1 e1 _ (Xo1 D2) (by omega)).mono ?_;rintro r w4 ⟨neg2,e2,a2,n2,c2,L,er,rfl,ZY,q6,F1⟩;
                    have Qj:=Below.next0 (Xe2 D2) F1;have U0:=(Xo0 HN).step Qj (Xo1 HN);have Y3:=U0.c0;have N1:=U0.c1;have E1:=U0.c2;have Q4:=U0.f0;have O2:=U0.f1;have X2:=U0.f2;have L4:=U0.d1 (.bool neg2);have K3:=U0.d2 (.bool neg2) (.int .i64 e2);have N3:=Xh4 U0 (Below.next0 (Xe2 HN) Qj) q6 ZY;clear U0 F1 Qj q6 ZY))
                 have I4:=(Xo0 N3).store (.bool neg2) (.int .i64 e2) (.slice a2 n2 c2);have k0:=I4.c0;have k1:=I4.c1;have k2:=I4.c2;have M0:=Q02.below (Xo1 N3) (Ug _) (.bool neg2) (.int .i64 e2) (.slice a2 n2 c2);have C6:=(Xo2 N3);have U6:WordsIn _ a2 n2 c2 L:=⟨C6.len,C6.cap,C6.most,C6.low,(C6.rd.store3 (Xo0 N3) (fun _=>by simp[nv]) (fun _=>by simp[nv]) (fun _=>by simp[nv]) (.bool neg2) (.int .i64 e2) (.slice a2 n2 c2)).more (Q18 _ _ _ _ _)⟩;clear I4 Y3 N1 E1 Q4 O2 X2 L4 K3 C6;generalize World.setCell _ _ _=W5 at k0 k1 k2 M0 U6⊢;refine ⟨rfl,.tuple #[.agg #[.bool neg2,.int .i64 e2,.slice a2 n2 c2],.int .i64 er],by simp[results,go_sem,k0,k1,k2],Q6k.of (Q0k.some_ HEX.out (Qbe (Xo0 D2) (Xe3 N3))) U6 M0⟩
            ·have Kz:((T:Int) != (s.size:Int))=true:=(by rw[bne_iff_ne];omega);have hF:form s.data.toList=none:=by
              rw[XJ,Qfh G4 (Xe1 YT) HMK.out hk (.inl (by rw[hd];exact hfull))]
             have HF:=Ua hF;clear QH hF O6 XJ KL YT hfull hT
             go_wp2_with (refine HC.out.mono ?_;rintro r w1 ⟨rfl,rfl⟩)
             have k0:=(Xo0 Qo).c0;have k1:=(Xo0 Qo).c1;have k2:=(Xo0 Qo).c2;have M0:=(Xe1 Qo);clear Y3 N1 E1 Q4 O2 X2 L4 K3;generalize World.setCell _ _ _=W5 at k0 k1 k2 M0⊢;refine ⟨rfl,.tuple #[.agg #[.bool false,.int .i64 0,.slice none 0 0],.int .i64 5],by simp[results,go_sem,k0,k1,k2],Q6k.of (Q0k.none_ HF.out) (WordsIn.nil_ _) M0⟩
         ·have YW:(((s[i]'G4).toNat:Int) != 112)=true:=(by rw[bne_iff_ne];intro e;exact hp (TM.1 (show (s[i]'G4).toNat=112 by omega)));have hF:form s.data.toList=none:=by
           by_cases Q3:(s[at_]'has)=48
           ·exact (Xe1 KA) Q3 G4
           ·rw[(Xo0 KA) (.inl Q3),Qce G4,Q9u,Us hp]
          have HF:=Ua hF;clear hF hp
          go_wp2_with fail
          have k0:=(Xo0 Qo).c0;have k1:=(Xo0 Qo).c1;have k2:=(Xo0 Qo).c2;have M0:=(Xe1 Qo);clear Y3 N1 E1 Q4 O2 X2 L4 K3;generalize World.setCell _ _ _=W5 at k0 k1 k2 M0⊢;refine ⟨rfl,.tuple #[.agg #[.bool false,.int .i64 0,.slice none 0 0],.int .i64 5],by simp[results,go_sem,k0,k1,k2],Q6k.of (Q0k.none_ HF.out) (WordsIn.nil_ _) M0⟩
end Go.Proofs.YtdilmfakkppgpaaGreatDoor
