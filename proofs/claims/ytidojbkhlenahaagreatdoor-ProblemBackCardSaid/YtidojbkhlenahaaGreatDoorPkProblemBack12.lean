/- Part 12. No condition. -/
import Derived.Lib.ParseIntBCases
import Derived.Lib.AtoiErrMem
import Derived.Test.YtidojbkhlenahaaGreatDoorPkProblemBack11
set_option maxRecDepth 100000
set_option maxHeartbeats 16000000
namespace Go.Proofs.YtidojbkhlenahaaGreatDoor
open Go.RowKit WordsM DecM
theorem Qfu:∀(l:LU) (acc k:Nat),Qkt l->acc<10^k->k+l.length<=19->Lib.parseUintM 18446744073709551615 acc l=.ok (l.foldl (fun a b=>10*a+(b.toNat-48)) acc)
 |[],acc,k,_,_,_=>rfl
 |c::r,acc,k,h,ha,hk=>by
  have hc:=h c (by simp);rw[Ur] at hk;have h18:acc<10^18:=Uc ha (UO (by decide) (by omega));have h1:acc*10+(c.toNat-48)<10^(k+1):=by rw[Tf];omega
  have h2:(10:Nat)^(k+1)<=10^19:=UO (by decide) (by omega);have e18:(10:Nat)^18=1000000000000000000:=rfl;have e19:(10:Nat)^19=10000000000000000000:=rfl;rw[e18] at h18;rw[e19] at h2;have ih:=Qfu r (acc*10+(c.toNat-48)) (k+1) (fun x hx=>h x (by simp[hx])) h1 (by omega);rw[Lib.parseUintM,Us hc,Up (by omega),Up (by omega),ih,Xbv,UC acc 10]
theorem Qti (l:LU) (h:Qkt l) (h0:l≠[]) (hl:l.length<=19):Lib.parseUintB 64 l=.ok (dv l):=by
 unfold Lib.parseUintB;rw[Up h0];exact Qfu l 0 0 h (by decide) (by omega)
theorem Qo3 (s:ByteArray) (n:Nat):(s.extract 0 n).data.toList=s.data.toList.take n:=by simp
theorem Qo4 (s:ByteArray) (n:Nat):(s.extract n s.size).data.toList=s.data.toList.drop n:=by
 have hl:s.data.toList.length=s.size:=rfl;simp only[ByteArray.data_extract,Array.toList_extract,List.extract_eq_take_drop];exact Uw (by rw[Tg,hl];exact Ue _)
def lenOf:Value->Nat
 | .string b=>b.size
 |_=>0
theorem Qfv (w:World) (m:Nat) (hm:m<18446744073709551616) (T:TypeId):WordsIn (w.alloc (.cells #[.int .u64 (m:Int)] T)) (some ⟨w.heap.size,0,none⟩) 1 1 [m]:=
 ⟨rfl,Ue _,by omega,fun x hx=>by rw[Ux] at hx;subst hx;exact hm,.inr ⟨w.heap.size,0,rfl,by rw[Ui];omega,fun j x hx=>by
   cases j with
   |zero=>simp only[UD,Uj] at hx;subst hx;rw[Uv _ _ _ _ _ _ (Um _ _)];rfl
   |succ j=>simp at hx⟩⟩
theorem Qtj (s:ByteArray) (w:World) (hs:s.size<=1300) (ha:Qkt s.data.toList):
 Calls Tryz.prog 269 #[.string s] w (Q9h w (dv s.data.toList)):=by
 have H:=Ub ha;clear ha
 go_enter Tryz.func269,Tryz.ntmps269
 go_wp2_with fail
 go_loopw [0,3] (fun tv wv wr=>∃(t:ByteArray) (pre:LU) (a:OA) (n c:Nat),tv=.string t/\wv=.slice a n c/\s.data.toList=pre++t.data.toList/\WordsIn wr a n c (dig (2^64) (dv pre))/\Bw w wr) (fun tv _ _=>lenOf tv)
 case atStart=>exact ⟨s,[],none,0,0,rfl,rfl,rfl,⟨rfl,Ue _,by omega,fun x hx=>by simp[dv,Q0z] at hx,.inl rfl⟩,Ug _ _⟩
 case round=>
  obtain ⟨t,pre,a,n,c,rfl,rfl,M4,hW,hb⟩:=hrel;have E0:t.data.toList.length=t.size:=rfl;have A2:pre.length+t.size=s.size:=by
   have h1:=congrArg List.length M4;rw[Uh,E0] at h1;exact h1.symm
  by_cases ht:t.size=0
  ·have htI:¬(0:Int)<(t.size:Int):=(by omega);have JK:t.data.toList=[]:=UJ.1 (by rw[E0];exact ht);rw[JK,Xai] at M4;rw[<-M4] at hW;have HE:=Xh2 hW hb;clear hW hb M4 JK E0
   go_wp2_with fail
   go_ret;exact ⟨a,n,c,rfl,(Xo0 HE),(Xe1 HE)⟩
  ·have htI:(0:Int)<(t.size:Int):=(by omega);obtain ⟨k,hk⟩:∃k,min t.size 19=k:=⟨_,rfl⟩;have hmin:min (t.size:Int) 19=(k:Int):=(by omega);have X2:1<=k:=(by omega);have hk19:k<=19:=(by omega);have hkt:k<=t.size:=(by omega);obtain ⟨u,hu⟩:∃u:ByteArray,t.extract 0 k=u:=⟨_,rfl⟩;obtain ⟨rest,G6⟩:∃r:ByteArray,t.extract k t.size=r:=⟨_,rfl⟩;have Kl:u.data.toList=t.data.toList.take k:=(by rw[<-hu];exact Qo3 t k);have Xc:rest.data.toList=t.data.toList.drop k:=(by rw[<-G6];exact Qo4 t k);have hus:u.data.toList.length=k:=(by rw[Kl,Tl,E0];omega);have KN:rest.size=t.size-k:=by
    have:rest.data.toList.length=rest.size:=rfl;rw[<-this,Xc,Tg,E0]
   have Y1:Qkt t.data.toList:=fun x hx=>H.out x (by rw[M4];simp[hx]);have hau:Qkt u.data.toList:=fun x hx=>Y1 x (by rw[Kl] at hx;exact TB hx);have Ka:Qkt pre:=fun x hx=>H.out x (by rw[M4];simp[hx]);have hp:=Qti u.data.toList hau (fun e=>by rw[e] at hus;simp at hus;omega) (by omega);have hvu:dv u.data.toList<10^19:=Uc (Qi4 _ hau) (by rw[hus];exact UO (by decide) hk19);have i5:dv (pre++u.data.toList)=dv pre*10^k+dv u.data.toList:=(by rw[Qi3,hus]);have hpu:s.data.toList=(pre++u.data.toList)++rest.data.toList:=(by rw[Tb,Kl,Xc,Xbi];exact M4);obtain ⟨v,hv⟩:∃v,dv u.data.toList=v:=⟨_,rfl⟩;have hvpre:(dig (2^64) (dv pre)).length<=pre.length:=Q2q (by decide) (Uc (Qi4 pre Ka) (Xbn (by decide) pre.length));have hn13:n<=1300:=(by rw[<-hW.len];omega);rw[hv] at hp hvu i5;have e19:(10:Nat)^19=10000000000000000000:=rfl;rw[e19] at hvu;have ZE:v<18446744073709551616:=(by omega);have ZC:=fun W=>Tryz.J3j u (by have:u.data.toList.length=u.size:=rfl;omega) v hp W;have hLEN:∀T,T=10^k->(dig (2^64) (dv pre*T)).length<=1302:=fun T hT=>by
    have h1:dv pre*T<10^(pre.length+k):=by
     rw[hT,Tp];exact TL (Qi4 pre Ka) (Tr (by decide))
    have h2:(dig (2^64) (dv pre*T)).length<=pre.length+k:=Q2q (by decide) (Uc h1 (Xbn (by decide) _));omega
   have HLEN:=Ub hLEN;clear hLEN;have HP:=Xh6 ZC i5 hpu hW hb KN;clear ZC i5 hpu hW hb KN hp hv hvpre Ka hau Y1 Xc Kl M4 E0 e19 hvu hk hus
   go_wp2_with (refine ((Xo0 HP) _).mono ?_;rintro e w1 ⟨rfl,G4⟩;have C0:Bw wr w1:=by { rcases G4 with rfl|rfl;exact Ug _ _;exact Lib.bytesWorld_below _ _ _ };have K0:=Ub C0;clear G4 C0)
   go_loopw [7,22] (fun tv iv wz=>∃(i T:Nat),tv=.int .u64 (T:Int)/\iv=.int .i64 (i:Int)/\i<=k/\T=10^i/\w1=wz) (fun _ iv _=>k-(intOf iv).toNat)
   case atStart=>exact ⟨0,1,rfl,rfl,Ut _,rfl,rfl⟩
   case round=>
    obtain ⟨i,T,rfl,rfl,hi,hT,rfl⟩:=hrel;have V9:T<=10000000000000000000:=by
     rw[hT];have h1:(10:Nat)^i<=10^19:=UO (by decide) (by omega);have h2:(10:Nat)^19=10000000000000000000:=rfl;rwa[h2] at h1
    by_cases hlk:i<k
    ·have hlkI:(i:Int)<(k:Int):=(by omega);have hT18:T<=1000000000000000000:=by
      rw[hT];have h1:(10:Nat)^i<=10^18:=UO (by decide) (by omega);have h2:(10:Nat)^18=1000000000000000000:=rfl;rwa[h2] at h1
     obtain ⟨T2,hT2⟩:∃T2,T*10=T2:=⟨_,rfl⟩;have hTI:(T:Int)*10=(T2:Int):=(by omega);have hT2l:(T2:Int)<18446744073709551616:=(by omega);have HT:=Ub (show T2=10^(i+1) by rw[<-hT2,hT,Tf]);clear hT hT2 V9 hT18
     go_wp2_with fail
     exact ⟨⟨i+1,T2,rfl,by simp,by omega,HT.out,trivial⟩,by simp only[intOf];omega⟩
    ·obtain rfl:k=i:=(by omega);have hlkI:¬(k:Int)<(k:Int):=(by omega);have hWm:=fun W (M7:Bw wr W)=>Qfl a n c (dig (2^64) (dv pre)) (some ⟨W.heap.size,0,none⟩) 1 1 [T] (W.alloc (.cells #[.int .u64 (T:Int)] 83)) (((Xo3 HP).step M7).step (Ba)) (Qfv W T (by omega) 83) (by omega) (by decide);have HM:=Ub hWm;have HT:=Ub hT;clear hWm hT
     go_wp2_with (first
      |(go_at_call_of 296 a;refine (HM.out _ K0.out).mono ?_;rintro e w2 ⟨a2,n2,c2,rfl,I4,D0⟩;rw[Q0v (by decide),show val (2^64) [T]=T by simp[val]] at I4;
        have C6:n2<=1302:=by { rw[<-I4.len];exact (HLEN.out T HT.out) };
        have F1:=Xh2 I4 (Below.next0 K0.out (Below.next0 (Ba) D0));clear I4 D0)
      |(refine (Qf2 a2 n2 c2 _ (some ⟨w2.heap.size,0,none⟩) 1 1 [v] (w2.alloc (.cells #[.int .u64 (v:Int)] 83)) ((Xo0 F1).step (Ba)) (Qfv w2 v ZE 83) (by omega) (by decide)).mono ?_;rintro e w3 ⟨a3,n3,c3,rfl,g7,G0⟩;rw[Q0v (by decide),show val (2^64) [v]=v by simp[val]] at g7;
        have E3:=Xh2 g7 (Below.next0 (Xe1 F1) (Below.next0 (Ba) G0));clear g7 G0))
     refine ⟨⟨rest,pre++u.data.toList,a3,n3,c3,rfl,rfl,(Xo2 HP),?_,Below.next0 (Xo4 HP) (Xe1 E3)⟩,?_⟩
     ·rw[(Xo1 HP),<-HT.out];exact (Xo0 E3)
     ·show rest.size<t.size
      have:=(Xe5 HP);omega
theorem Qh4 (l:LU) (b:UInt8):Lib.hasPrefix l [b]=(match l with|[]=>false|c::_=>decide (c=b))/\Lib.trimPrefix l [b]=(match l with|[]=>[]|c::r=>if c=b then r else c::r):=by
 cases l with
 |nil=>exact ⟨rfl,rfl⟩
 |cons c r=>
  by_cases h:c=b
  ·subst h;simp[Lib.hasPrefix,Lib.trimPrefix]
  ·have h2:¬b=c:=fun e=>h e.symm;simp[Lib.hasPrefix,Lib.trimPrefix,List.isPrefixOf,h,h2]
theorem Qj7 (l:LU):Lib.hasPrefix l [45]=(Q2o l).1/\Lib.trimPrefix l [45]=(Q2o l).2:=by
 have h:=Qh4 l 45;cases l with
 |nil=>exact ⟨by rw[h.1];rfl,by rw[h.2];rfl⟩
 |cons c r=>
  by_cases hc:c=45
  ·rw[h.1,h.2];simp[Q2o,hc]
  ·rw[h.1,h.2];simp[Q2o,hc]
theorem Qtk (s:ByteArray) (l:LU) (h:s.data.toList=l):s=⟨l.toArray⟩:=by
 subst h;exact ByteArray.ext (by simp)
theorem Qq2 (l:LU) (h:Qkt l) (h0:l≠[]) (hl:l.length<=6):Lib.parseIntB 64 l=.ok (dv l:Int):=by
 have hp:=Qti l h h0 (by omega);have hb:dv l<10^6:=Uc (Qi4 l h) (UO (by decide) hl);have e6:(10:Nat)^6=1000000:=rfl;rw[e6] at hb;cases l with
 |nil=>exact absurd rfl h0
 |cons c r=>
  have hc:=h c (by simp);unfold Lib.parseIntB;simp only;rw[Up (by omega),hp];simp only;have hn:¬c.toNat=45:=by omega
  have e63:(2:Nat)^63=9223372036854775808:=rfl;rw[Up (by rintro ⟨_,h2⟩;rw[show 64-1=63 from rfl,e63] at h2;omega),Up (by rintro ⟨h2,_⟩;exact hn h2)];simp[hn]
theorem Q20 {s:ByteArray} {k:Nat} (h:J06 s k):digN s.data.toList=k:=by
 have h1:=Qvt (s:=s) (at_:=0) (k:=k) (Ut _) h.1 (fun j hj _ hk=>h.2.1 j hj hk) h.2.2;rw[Xbg] at h1;omega
def Q6l (w0:World) (S:LU) (e:Ending) (w':World):Prop:=
 (∃(x:Int) (ok:Bool),e=.returned (.tuple #[.int .i64 x,.bool ok])/\(ok=true/\Qem S=some x/\-1000000<=x/\x<=1000000∨ok=false/\Qem S=none))/\Bw w0 w'
theorem Q6l.good {w0 w':World} {S:LU} {x:Int} (h:Qem S=some x) (h1: -1000000<=x) (h2:x<=1000000) (hb:Bw w0 w'):Q6l w0 S (.returned (.tuple #[.int .i64 x,.bool true])) w':=⟨⟨x,true,rfl,.inl ⟨rfl,h,h1,h2⟩⟩,hb⟩
theorem Q6l.bad {w0 w':World} {S:LU} {x:Int} (h:Qem S=none) (hb:Bw w0 w'):Q6l w0 S (.returned (.tuple #[.int .i64 x,.bool false])) w':=⟨⟨x,false,rfl,.inr ⟨rfl,h⟩⟩,hb⟩
theorem Qtl (s:ByteArray) (w:World) (hs:s.size<=281474976710656):
 Calls Tryz.prog 268 #[.string s] w (Q6l w s.data.toList):=by
 have N0:s.data.toList.length=s.size:=rfl
 by_cases h0:s.size=0
 ·have JK:s.data.toList=[]:=UJ.1 (by rw[N0];exact h0);have P9:s=⟨#[]⟩:=Qtk s [] JK;subst P9
  go_enter Tryz.func268,Tryz.ntmps268
  go_wp2_with fail
  refine ⟨rfl,.tuple #[.int .i64 0,.bool true],by simp[results,go_sem],Q6l.good rfl (by decide) (by decide) (Ug _ _)⟩
 ·obtain ⟨c,r,hS⟩:∃c r,s.data.toList=c::r:=by
   cases h:s.data.toList with
   |nil=>rw[h] at N0;simp at N0;omega
   |cons c r=>exact ⟨c,r,rfl⟩
  have P9:s=⟨(c::r).toArray⟩:=Qtk s _ hS;have Q0:¬s=⟨#[]⟩:=fun e=>h0 (by rw[e];rfl);have hne2:s.toList.isEmpty=false:=by rw[ByteArray.toList_eq,hS];rfl
  rw[hS];have O1:=fun W=>Tryz.J2j s ⟨#[112]⟩ W;rw[hS] at O1
  by_cases hp:c=112
  ·subst hp;have QM:=Qh4 (112::r) 112;simp only[Xaz] at QM;have hq:=Qj7 r;have Xc:r.length<=281474976710656:=(by rw[hS] at N0;simp at N0;omega);have Ks:∀W,Calls Tryz.prog 173 #[.string s,.string ⟨#[112]⟩] W fun e w'=>e=.returned (.tuple #[.string ⟨r.toArray⟩,.bool true])/\W=w':=fun W=>(O1 W).mono (by
    rintro e w' ⟨rfl,rfl⟩;refine ⟨?_,rfl⟩
    show Ending.returned (.tuple #[.string ⟨(Lib.trimPrefix (112::r) [112]).toArray⟩,.bool (Lib.hasPrefix (112::r) [112])])=_
    rw[QM.1,QM.2];simp)
   obtain ⟨low,t,Wb⟩:∃low t,Q2o r=(low,t):=⟨_,_,rfl⟩;have hc2':∀W,Calls Tryz.prog 173 #[.string ⟨r.toArray⟩,.string ⟨#[45]⟩] W fun e w'=>e=.returned (.tuple #[.string ⟨t.toArray⟩,.bool low])/\W=w':=fun W=>(Tryz.J2j ⟨r.toArray⟩ ⟨#[45]⟩ W).mono (by
    rintro e w' ⟨rfl,rfl⟩;refine ⟨?_,rfl⟩
    show Ending.returned (.tuple #[.string ⟨(Lib.trimPrefix (r.toArray.toList) [45]).toArray⟩,.bool (Lib.hasPrefix (r.toArray.toList) [45])])=_
    rw[List.toList_toArray,hq.1,hq.2,Wb])
   have P6:t.length<=r.length:=by
    have h1:(Q2o r).2.length<=r.length:=by
     cases r with
     |nil=>simp[Q2o]
     |cons x y=>simp only[Q2o];split <;> simp
    rw[Wb] at h1;exact h1
   have y6:Qem (112::r)=if t.length<1∨6<t.length∨digN t<t.length∨t.headD 0=48 then none else some (if low=true then -(dv t:Int) else (dv t:Int)):=by
    rw[Qem,Up (by simp),Wb]
   have HC:=Xh3 Ks hc2' y6;obtain ⟨T,hT⟩:∃T:ByteArray,T=⟨t.toArray⟩:=⟨_,rfl⟩;have ZH:T.size=t.length:=(by rw[hT];rfl);have V9:T.data.toList=t:=(by rw[hT]);rw[<-hT] at HC;have HT:=Xh2 ZH V9;clear O1 Ks hc2' QM hq Wb y6 hT hS P9;have S1:=fun W=>Qso T W (by omega);obtain ⟨k,hk⟩:∃k,digN t=k:=⟨_,rfl⟩;have JM:=Qcr t;rw[hk] at JM;have HK:=Ub hk;clear hk N0 hs
   by_cases h1:t.length<1
   ·have hTI:(T.size:Int)<1:=(by omega);have hE:Qem (112::r)=none:=(by rw[(Xe2 HC),Us (.inl h1)]);have HE:=Ub hE;clear hE;clear ZH V9
    go_enter Tryz.func268,Tryz.ntmps268
    go_wp2_with (first
     |(go_at_call_of 173 (Value.string s);refine ((Xo0 HC) _).mono ?_;rintro e w1 ⟨rfl,rfl⟩)
     |(go_at_call_of 173 (Value.string ⟨r.toArray⟩);refine ((Xo1 HC) _).mono ?_;rintro e w1 ⟨rfl,rfl⟩))
    refine ⟨rfl,.tuple #[.int .i64 0,.bool false],by simp[results,go_sem],Q6l.bad HE.out (Ug _ _)⟩
   ·have hTI:¬(T.size:Int)<1:=by omega
    by_cases h6:6<t.length
    ·have hT6:(6:Int)<(T.size:Int):=(by omega);have hE:Qem (112::r)=none:=(by rw[(Xe2 HC),Us (.inr (.inl h6))]);have HE:=Ub hE;clear hE;clear ZH V9
     go_enter Tryz.func268,Tryz.ntmps268
     go_wp2_with (first
      |(go_at_call_of 173 (Value.string s);refine ((Xo0 HC) _).mono ?_;rintro e w1 ⟨rfl,rfl⟩)
      |(go_at_call_of 173 (Value.string ⟨r.toArray⟩);refine ((Xo1 HC) _).mono ?_;rintro e w1 ⟨rfl,rfl⟩))
     refine ⟨rfl,.tuple #[.int .i64 0,.bool false],by simp[results,go_sem],Q6l.bad HE.out (Ug _ _)⟩
    ·have hT6:¬(6:Int)<(T.size:Int):=by omega
     by_cases hkt:k<t.length
     ·have XI:(k:Int)<(T.size:Int):=(by omega);have hE:Qem (112::r)=none:=(by rw[(Xe2 HC),Us (.inr (.inr (.inl (by rw[HK.out];exact hkt))))]);have HE:=Ub hE;clear hE;clear ZH V9
      go_enter Tryz.func268,Tryz.ntmps268
      go_wp2_with (first
       |(go_at_call_of 173 (Value.string s);refine ((Xo0 HC) _).mono ?_;rintro e w1 ⟨rfl,rfl⟩)
       |(go_at_call_of 173 (Value.string ⟨r.toArray⟩);refine ((Xo1 HC) _).mono ?_;rintro e w1 ⟨rfl,rfl⟩)
       |(refine (S1 _).mono ?_;rintro e w2 ⟨⟨k',rfl,K7⟩,D0⟩;obtain rfl:k=k':=by { rw[<-HK.out,<-(Xe1 HT)];exact Q20 K7 };have F1:=Ub D0;clear D0 K7))
      refine ⟨rfl,.tuple #[.int .i64 0,.bool false],by simp[results,go_sem],Q6l.bad HE.out (F1.out)⟩
     ·have XI:¬(k:Int)<(T.size:Int):=(by omega);have R8:0<T.size:=(by omega);have Jb:t.headD 0=(T[0]'R8):=by
       have h:=Qsp (s:=T) (at_:=0) R8;rw[Xbg,(Xe1 HT)] at h;exact h
      by_cases D9:(T[0]'R8)=48
      ·have XX:(((T[0]'R8).toNat:Int)==48)=true:=(by rw[D9];rfl);have hE:Qem (112::r)=none:=(by rw[(Xe2 HC),Us (.inr (.inr (.inr (by rw[Jb];exact D9))))]);have HE:=Ub hE;clear hE;clear ZH V9
       go_enter Tryz.func268,Tryz.ntmps268
       go_wp2_with (first
        |(go_at_call_of 173 (Value.string s);refine ((Xo0 HC) _).mono ?_;rintro e w1 ⟨rfl,rfl⟩)
        |(go_at_call_of 173 (Value.string ⟨r.toArray⟩);refine ((Xo1 HC) _).mono ?_;rintro e w1 ⟨rfl,rfl⟩)
        |(refine (S1 _).mono ?_;rintro e w2 ⟨⟨k',rfl,K7⟩,D0⟩;obtain rfl:k=k':=by { rw[<-HK.out,<-(Xe1 HT)];exact Q20 K7 };have F1:=Ub D0;clear D0 K7))
       refine ⟨rfl,.tuple #[.int .i64 0,.bool false],by simp[results,go_sem],Q6l.bad HE.out (F1.out)⟩
      ·have XX:(((T[0]'R8).toNat:Int)==48)=false:=(by rw[Uk];intro e;exact D9 (Xa5.1 (show (T[0]'R8).toNat=48 by omega)));have Y0:Qkt t:=by
        have h:=Q7j t;rw[HK.out,Uw (by omega)] at h;exact h
       have hE:=(Xe2 HC);rw[Up (by rintro (h|h|h|h);exact h1 h;exact h6 h;(rw[HK.out] at h;exact hkt h);(rw[Jb] at h;exact D9 h))] at hE;have hpi:=Qq2 t Y0 (fun e=>by rw[e] at h1;simp at h1) (by omega);have Yp:dv t<10^6:=Uc (Qi4 t Y0) (UO (by decide) (by omega));have e6:(10:Nat)^6=1000000:=rfl;rw[e6] at Yp;obtain ⟨x,hx⟩:∃x,dv t=x:=⟨_,rfl⟩;rw[hx] at hE hpi Yp;have hxI:(x:Int)<=1000000:=(by omega);have ZC:=fun W=>Tryz.J3g T (by omega) (x:Int) (by rw[(Xe1 HT)];exact hpi) W;have HP:=Ub ZC;clear ZC hpi hx Yp e6 Y0 Jb D9 hkt;cases low
       ·have HE:=Ub (show Qem (112::r)=some (x:Int) from hE);clear hE;clear ZH V9
        go_enter Tryz.func268,Tryz.ntmps268
        go_wp2_with (first
         |(go_at_call_of 173 (Value.string s);refine ((Xo0 HC) _).mono ?_;rintro e w1 ⟨rfl,rfl⟩)
         |(go_at_call_of 173 (Value.string ⟨r.toArray⟩);refine ((Xo1 HC) _).mono ?_;rintro e w1 ⟨rfl,rfl⟩)
         |(refine (S1 _).mono ?_;rintro e w2 ⟨⟨k',rfl,K7⟩,D0⟩;obtain rfl:k=k':=by { rw[<-HK.out,<-(Xe1 HT)];exact Q20 K7 };have F1:=Ub D0;clear D0 K7)
         |(refine (HP.out _).mono ?_;rintro e w3 ⟨rfl,XA⟩;have G0:Bw w2 w3:=by { rcases XA with rfl|⟨t',rfl⟩;exact Ug _ _;exact Lib.bytesWorld_below _ _ _ };have E3:=Ub G0;clear XA G0))
        refine ⟨rfl,.tuple #[.int .i64 (x:Int),.bool true],by simp[results,go_sem],Q6l.good HE.out (by omega) hxI (Below.next0 F1.out E3.out)⟩
       ·have HE:=Ub (show Qem (112::r)=some (-(x:Int)) from hE);clear hE;clear ZH V9
        go_enter Tryz.func268,Tryz.ntmps268
        go_wp2_with (first
         |(go_at_call_of 173 (Value.string s);refine ((Xo0 HC) _).mono ?_;rintro e w1 ⟨rfl,rfl⟩)
         |(go_at_call_of 173 (Value.string ⟨r.toArray⟩);refine ((Xo1 HC) _).mono ?_;rintro e w1 ⟨rfl,rfl⟩)
         |(refine (S1 _).mono ?_;rintro e w2 ⟨⟨k',rfl,K7⟩,D0⟩;obtain rfl:k=k':=by { rw[<-HK.out,<-(Xe1 HT)];exact Q20 K7 };have F1:=Ub D0;clear D0 K7)
         |(refine (HP.out _).mono ?_;rintro e w3 ⟨rfl,XA⟩;have G0:Bw w2 w3:=by { rcases XA with rfl|⟨t',rfl⟩;exact Ug _ _;exact Lib.bytesWorld_below _ _ _ };have E3:=Ub G0;clear XA G0))
        refine ⟨rfl,.tuple #[.int .i64 (-(x:Int)),.bool true],by simp[results,go_sem],Q6l.good HE.out (by omega) (by omega) (Below.next0 F1.out E3.out)⟩
  ·have QM:=Qh4 (c::r) 112;simp only[Up hp] at QM;have Vj:decide (c=112)=false:=Ta hp;have Ks:∀W,Calls Tryz.prog 173 #[.string s,.string ⟨#[112]⟩] W fun e w'=>e=.returned (.tuple #[.string s,.bool false])/\W=w':=fun W=>(O1 W).mono (by
    rintro e w' ⟨rfl,rfl⟩;refine ⟨?_,rfl⟩
    show Ending.returned (.tuple #[.string ⟨(Lib.trimPrefix (c::r) [112]).toArray⟩,.bool (Lib.hasPrefix (c::r) [112])])=_
    rw[QM.1,QM.2,Vj,<-P9])
   have E1:=fun W=>Tryz.J2j s ⟨#[45]⟩ W;have hE:Qem (c::r)=none:=(by rw[Qem,Us hp]);have HC:=Xh3 Ks E1 hE;clear O1 Ks E1 QM Vj hE hS P9 N0
   go_enter Tryz.func268,Tryz.ntmps268
   go_wp2_with (first
    |(go_at_call_of 173 (Value.string ⟨#[112]⟩);refine ((Xo0 HC) _).mono ?_;rintro e w1 ⟨rfl,rfl⟩)
    |(go_at_call_of 173 (Value.string ⟨#[45]⟩);refine ((Xo1 HC) _).mono ?_;rintro e w1 ⟨rfl,G4⟩;obtain rfl:=G4.symm))
   refine ⟨rfl,.tuple #[.int .i64 0,.bool false],by simp[results,go_sem],Q6l.bad (Xe2 HC) (Ug _ _)⟩
def Q15 (S:LU) (neg':Bool) (e':Int) (L:LN) (er:Int):Prop:=match form S with
 |none=>neg'=false/\e'=0/\L=[]/\er=5
 |some (neg,v,e)=>Q7e neg v e neg' e' L er
theorem Q15.none_ {S:LU} (h:form S=none):Q15 S false 0 [] 5:=by unfold Q15;rw[h];exact ⟨rfl,rfl,rfl,rfl⟩
theorem Q15.some_ {S:LU} {neg:Bool} {v:Nat} {e:Int} (h:form S=some (neg,v,e)) {neg':Bool} {e':Int} {L:LN} {er:Int} (hm:Q7e neg v e neg' e' L er):Q15 S neg' e' L er:=by unfold Q15;rw[h];exact hm
theorem Qq3 (l:LU) (x:Int) (h:Qem l=some x): -1000000<=x/\x<=1000000:=by
 cases l with
 |nil=>rw[Qem] at h;injection h with h;omega
 |cons c r=>
  rw[Qem] at h
  split at h
  ·cases h
  ·split at h
   ·cases h
   ·rename_i h2;have hd:Qkt (Q2o r).2:=by
     have h3:=Q7j (Q2o r).2;rw[Uw (by omega)] at h3;exact h3
    have hb:dv (Q2o r).2<10^6:=Uc (Qi4 _ hd) (UO (by decide) (by omega));have e6:(10:Nat)^6=1000000:=rfl;rw[e6] at hb;injection h with h
    split at h <;> omega
def Q5j (w0:World) (Φ:Bool->Int->LN->Int->Prop) (r:Ending) (w':World):Prop:=
 ∃neg' e' a' n' c' L er,r=.returned (.tuple #[.agg #[.bool neg',.int .i64 e',.slice a' n' c'],.int .i64 er])/\Φ neg' e' L er/\Q2n w0 w' a' n' c' L/\Bw w0 w'
theorem Q5j.of {w0 w':World} {Φ:Bool->Int->LN->Int->Prop} {neg':Bool} {e':Int} {a':OA} {n' c':Nat} {L:LN} {er:Int} (h1:Φ neg' e' L er) (h2:Q2n w0 w' a' n' c' L) (h3:Bw w0 w'):
 Q5j w0 Φ (.returned (.tuple #[.agg #[.bool neg',.int .i64 e',.slice a' n' c'],.int .i64 er])) w':=⟨neg',e',a',n',c',L,er,rfl,h1,h2,h3⟩
theorem Qj8 (s:ByteArray) (w:World) (hs:s.size<=281474976710656) (hTI:Q1s w):
 Calls Tryz.prog 235 #[.string s] w (Q5j w (Q15 s.data.toList)):=by
 have N0:s.data.toList.length=s.size:=rfl;have Z2:Bw w (w.alloc (.cells #[.bool false,.int .i64 0,.slice none 0 0] 26)):=Ba;have O9:=Q03.new w (.bool false) (.int .i64 0) (.slice none 0 0) 26;have I3:=Q0h w (.cells #[.bool false,.int .i64 0,.slice none 0 0] 26);have HW:=Xh2 Z2 O9;have HTI:=Ub hTI;have hq:=Qj7 s.data.toList;obtain ⟨neg,t,Wb⟩:∃neg t,Q2o s.data.toList=(neg,t):=⟨_,_,rfl⟩;have P6:t.length<=s.size:=by
  have h1:(Q2o s.data.toList).2.length<=s.data.toList.length:=by
   cases s.data.toList with
   |nil=>simp[Q2o]
   |cons x y=>simp only[Q2o];split <;> simp
  rw[Wb] at h1;exact h1
 have t7:form s.data.toList=form s.data.toList:=rfl
 conv at t7=>rhs;unfold form
 rw[Wb] at t7;simp only at t7;have O1:∀W,Calls Tryz.prog 173 #[.string s,.string ⟨#[45]⟩] W fun e w'=>e=.returned (.tuple #[.string ⟨t.toArray⟩,.bool neg])/\W=w':=fun W=>(Tryz.J2j s ⟨#[45]⟩ W).mono (by
  rintro e w' ⟨rfl,rfl⟩;refine ⟨?_,rfl⟩
  show Ending.returned (.tuple #[.string ⟨(Lib.trimPrefix s.data.toList [45]).toArray⟩,.bool (Lib.hasPrefix s.data.toList [45])])=_
  rw[hq.1,hq.2,Wb])
 obtain ⟨T,hT⟩:∃T:ByteArray,T=⟨t.toArray⟩:=⟨_,rfl⟩;have ZH:T.size=t.length:=by rw[hT];rfl
 have V9:T.data.toList=t:=by rw[hT]
 rw[<-hT] at O1;have S1:=fun W=>Qso T W (by omega);obtain ⟨k,hk⟩:∃k,digN t=k:=⟨_,rfl⟩;have JM:=Qcr t;have Vf:=Q7j t;rw[hk] at JM t7 Vf;have HK:=Ub hk;have HT:=Xh2 ZH V9;have HC:=Xh2 O1 S1;have HFO:=Ub t7;have HTA:=Ub Vf;clear hq Wb t7 O1 S1 hk hT Z2 O9 hTI N0 Vf
 by_cases h1:k<1
 ·skip;have XI:(k:Int)<1:=by omega
  have hF:form s.data.toList=none:=by rw[HFO.out,Us (.inl h1)]
  have HF:=Ub hF;clear hF ZH V9
  go_enter Tryz.func235,Tryz.ntmps235
  go_wp2_with (first
   |(go_at_call_of 173 (Value.string s);refine ((Xo0 HC) _).mono ?_;rintro e w1 ⟨rfl,rfl⟩)
   |(go_at_call_of 267 (Value.string T);refine ((Xe1 HC) _).mono ?_;rintro e w2 ⟨⟨k',rfl,K7⟩,D0⟩;obtain rfl:k=k':=by { rw[<-HK.out,<-(Xe1 HT)];exact Q20 K7 };have A1:=(Xe1 HW).step D0 I3;obtain ⟨N4,O1,E1,m4,Y3,A4⟩:=A1.cf;have V6:=A1.d1 (.bool false);have I5:=A1.d2 (.bool false) (.int .i64 0);have F1:=Xh3 A1 D0 (Below.next0 (Xo0 HW) D0);clear A1 D0 K7))
  obtain ⟨k0,k1,k2,Z0⟩:=Q7d (Xo0 F1) (Xe2 F1) (Ue _) (.bool false) (.int .i64 0) (.slice none 0 0);clear N4 O1 E1 m4 Y3 A4 V6 I5;generalize World.setCell _ _ _=W5 at k0 k1 k2 Z0⊢;refine ⟨rfl,.tuple #[.agg #[.bool false,.int .i64 0,.slice none 0 0],.int .i64 5],by simp[results,go_sem,k0,k1,k2],Q5j.of (Q15.none_ HF.out) (Q2n.nil_ _ _) Z0⟩
 ·have XI:¬(k:Int)<1:=by omega
  by_cases Yd:1300<k
  ·skip;have hk13:(1300:Int)<(k:Int):=(by omega);have hF:form s.data.toList=none:=(by rw[HFO.out,Us (.inr (.inl Yd))]);have HF:=Ub hF;clear hF ZH V9
   go_enter Tryz.func235,Tryz.ntmps235
   go_wp2_with (first
    |(go_at_call_of 173 (Value.string s);refine ((Xo0 HC) _).mono ?_;rintro e w1 ⟨rfl,rfl⟩)
    |(go_at_call_of 267 (Value.string T);refine ((Xe1 HC) _).mono ?_;rintro e w2 ⟨⟨k',rfl,K7⟩,D0⟩;obtain rfl:k=k':=by { rw[<-HK.out,<-(Xe1 HT)];exact Q20 K7 };have A1:=(Xe1 HW).step D0 I3;obtain ⟨N4,O1,E1,m4,Y3,A4⟩:=A1.cf;have V6:=A1.d1 (.bool false);have I5:=A1.d2 (.bool false) (.int .i64 0);have F1:=Xh3 A1 D0 (Below.next0 (Xo0 HW) D0);clear A1 D0 K7))
   obtain ⟨k0,k1,k2,Z0⟩:=Q7d (Xo0 F1) (Xe2 F1) (Ue _) (.bool false) (.int .i64 0) (.slice none 0 0);clear N4 O1 E1 m4 Y3 A4 V6 I5;generalize World.setCell _ _ _=W5 at k0 k1 k2 Z0⊢;refine ⟨rfl,.tuple #[.agg #[.bool false,.int .i64 0,.slice none 0 0],.int .i64 5],by simp[results,go_sem,k0,k1,k2],Q5j.of (Q15.none_ HF.out) (Q2n.nil_ _ _) Z0⟩
  ·have hk13:¬(1300:Int)<(k:Int):=(by omega);have R8:0<T.size:=(by omega);have Jb:t.headD 0=(T[0]'R8):=by
    have h:=Qsp (s:=T) (at_:=0) R8;rw[Xbg,(Xe1 HT)] at h;exact h
   have HHD:=Ub Jb;clear Jb
   by_cases hz:(T[0]'R8)=48/\(neg=true∨1<t.length)
   ·obtain ⟨D9,K1⟩:=hz;have XX:(((T[0]'R8).toNat:Int)==48)=true:=(by rw[D9];rfl);cases neg
    ·have h1l:1<t.length:=by rcases K1 with h|h;cases h;exact h
     have h1I:(1:Int)<(T.size:Int):=(by omega);have hF:form s.data.toList=none:=(by rw[HFO.out,Us (.inr (.inr ⟨by rw[HHD.out];exact D9,.inr h1l⟩))]);have HF:=Ub hF;clear hF ZH V9 D9 K1
     go_enter Tryz.func235,Tryz.ntmps235
     go_wp2_with (first
      |(go_at_call_of 173 (Value.string s);refine ((Xo0 HC) _).mono ?_;rintro e w1 ⟨rfl,rfl⟩)
      |(go_at_call_of 267 (Value.string T);refine ((Xe1 HC) _).mono ?_;rintro e w2 ⟨⟨k',rfl,K7⟩,D0⟩;obtain rfl:k=k':=by { rw[<-HK.out,<-(Xe1 HT)];exact Q20 K7 };have A1:=(Xe1 HW).step D0 I3;obtain ⟨N4,O1,E1,m4,Y3,A4⟩:=A1.cf;have V6:=A1.d1 (.bool false);have I5:=A1.d2 (.bool false) (.int .i64 0);have F1:=Xh3 A1 D0 (Below.next0 (Xo0 HW) D0);clear A1 D0 K7))
     obtain ⟨k0,k1,k2,Z0⟩:=Q7d (Xo0 F1) (Xe2 F1) (Ue _) (.bool false) (.int .i64 0) (.slice none 0 0);clear N4 O1 E1 m4 Y3 A4 V6 I5;generalize World.setCell _ _ _=W5 at k0 k1 k2 Z0⊢;refine ⟨rfl,.tuple #[.agg #[.bool false,.int .i64 0,.slice none 0 0],.int .i64 5],by simp[results,go_sem,k0,k1,k2],Q5j.of (Q15.none_ HF.out) (Q2n.nil_ _ _) Z0⟩
    ·skip;have hF:form s.data.toList=none:=(by rw[HFO.out,Us (.inr (.inr ⟨by rw[HHD.out];exact D9,.inl rfl⟩))]);have HF:=Ub hF;clear hF ZH V9 D9 K1
     go_enter Tryz.func235,Tryz.ntmps235
     go_wp2_with (first
      |(go_at_call_of 173 (Value.string s);refine ((Xo0 HC) _).mono ?_;rintro e w1 ⟨rfl,rfl⟩)
      |(go_at_call_of 267 (Value.string T);refine ((Xe1 HC) _).mono ?_;rintro e w2 ⟨⟨k',rfl,K7⟩,D0⟩;obtain rfl:k=k':=by { rw[<-HK.out,<-(Xe1 HT)];exact Q20 K7 };have A1:=(Xe1 HW).step D0 I3;obtain ⟨N4,O1,E1,m4,Y3,A4⟩:=A1.cf;have V6:=A1.d1 (.bool false);have I5:=A1.d2 (.bool false) (.int .i64 0);have F1:=Xh3 A1 D0 (Below.next0 (Xo0 HW) D0);clear A1 D0 K7))
     obtain ⟨k0,k1,k2,Z0⟩:=Q7d (Xo0 F1) (Xe2 F1) (Ue _) (.bool false) (.int .i64 0) (.slice none 0 0);clear N4 O1 E1 m4 Y3 A4 V6 I5;generalize World.setCell _ _ _=W5 at k0 k1 k2 Z0⊢;refine ⟨rfl,.tuple #[.agg #[.bool false,.int .i64 0,.slice none 0 0],.int .i64 5],by simp[results,go_sem,k0,k1,k2],Q5j.of (Q15.none_ HF.out) (Q2n.nil_ _ _) Z0⟩
   ·have t7:=HFO.out;rw[Up (by rintro (h|h|h);exact h1 h;exact Yd h;(rw[HHD.out] at h;exact hz h))] at t7;obtain ⟨u,hu⟩:∃u:ByteArray,T.extract 0 k=u:=⟨_,rfl⟩;obtain ⟨rest,G6⟩:∃r:ByteArray,T.extract k T.size=r:=⟨_,rfl⟩;have Kl:u.data.toList=t.take k:=(by rw[<-hu,Qo3,(Xe1 HT)]);have Xc:rest.data.toList=t.drop k:=(by rw[<-G6,Qo4,(Xe1 HT)]);have hus:u.size=k:=by
     have:u.data.toList.length=u.size:=rfl;rw[<-this,Kl,Tl];omega
    have KN:rest.size<=T.size:=by
     have:rest.data.toList.length=rest.size:=rfl;rw[<-this,Xc,Tg];omega
    rw[<-Kl,<-Xc] at t7;have hau:Qkt u.data.toList:=(by rw[Kl];exact HTA.out);have Xi:=fun W=>Qtl rest W (by omega);have JT:=fun W=>Qtj u W (by omega) hau;have ZE:(dig (2^64) (dv u.data.toList)).length<=1300:=by
     have h:=Q2q (B:=2^64) (by decide) (Uc (Qi4 u.data.toList hau) (Xbn (by decide) u.data.toList.length));have:u.data.toList.length=u.size:=rfl;omega
    have HP:=Xh4 Xi JT t7 ZE;have HZ:=Ub hz;clear Xi JT t7 ZE hau Kl Xc KN hus hz HFO;have XS:=(Xo2 HP);have hkT:(k:Int)<=(T.size:Int):=(by omega);cases y6:Qem rest.data.toList with
    |none=>
     have Xi:∀W,Calls Tryz.prog 268 #[.string rest] W fun e w'=>∃x:Int,e=.returned (.tuple #[.int .i64 x,.bool false])/\Bw W w':=fun W=>((Xo0 HP) W).mono (by
      rintro e w' ⟨⟨x,ok,rfl,⟨_,h,_⟩|⟨rfl,_⟩⟩,hb⟩
      ·rw[y6] at h;cases h
      ·exact ⟨x,rfl,hb⟩)
     rw[y6] at XS;have HPW:=Ub Xi;have HF:=Ub (show form s.data.toList=none from XS);clear Xi XS y6
     by_cases D9:(T[0]'R8)=48
     ·have XX:(((T[0]'R8).toNat:Int)==48)=true:=(by rw[D9];rfl);obtain rfl:neg=false:=by
       cases neg
       ·rfl
       ·exact absurd ⟨D9,.inl rfl⟩ HZ.out
      have h1I:¬(1:Int)<(T.size:Int):=fun h=>HZ.out ⟨D9,.inr (by omega)⟩;clear D9 ZH V9
      go_enter Tryz.func235,Tryz.ntmps235
      go_wp2_with (first
       |(go_at_call_of 173 (Value.string s);refine ((Xo0 HC) _).mono ?_;rintro e w1 ⟨rfl,rfl⟩)
       |(go_at_call_of 267 (Value.string T);refine ((Xe1 HC) _).mono ?_;rintro e w2 ⟨⟨k',rfl,K7⟩,D0⟩;obtain rfl:k=k':=by { rw[<-HK.out,<-(Xe1 HT)];exact Q20 K7 };have F1:=Ub D0;clear D0 K7)
       |(refine (HPW.out _).mono ?_;rintro e w3 ⟨x,rfl,G0⟩;have K2:=Below.next0 F1.out G0;have A1:=(Xe1 HW).step K2 I3;obtain ⟨N4,O1,E1,m4,Y3,A4⟩:=A1.cf;have V6:=A1.d1 (.bool false);have I5:=A1.d2 (.bool false) (.int .i64 0);have E3:=Xh2 A1 (Below.next0 (Xo0 HW) K2);clear A1 G0 K2))
      obtain ⟨k0,k1,k2,Z0⟩:=Q7d (Xo0 E3) (Xe1 E3) (Ue _) (.bool false) (.int .i64 0) (.slice none 0 0);clear N4 O1 E1 m4 Y3 A4 V6 I5;generalize World.setCell _ _ _=W5 at k0 k1 k2 Z0⊢;refine ⟨rfl,.tuple #[.agg #[.bool false,.int .i64 0,.slice none 0 0],.int .i64 5],by simp[results,go_sem,k0,k1,k2],Q5j.of (Q15.none_ HF.out) (Q2n.nil_ _ _) Z0⟩
     ·have XX:(((T[0]'R8).toNat:Int)==48)=false:=(by rw[Uk];intro e;exact D9 (Xa5.1 (show (T[0]'R8).toNat=48 by omega)));clear D9 ZH V9
      go_enter Tryz.func235,Tryz.ntmps235
      go_wp2_with (first
       |(go_at_call_of 173 (Value.string s);refine ((Xo0 HC) _).mono ?_;rintro e w1 ⟨rfl,rfl⟩)
       |(go_at_call_of 267 (Value.string T);refine ((Xe1 HC) _).mono ?_;rintro e w2 ⟨⟨k',rfl,K7⟩,D0⟩;obtain rfl:k=k':=by { rw[<-HK.out,<-(Xe1 HT)];exact Q20 K7 };have F1:=Ub D0;clear D0 K7)
       |(refine (HPW.out _).mono ?_;rintro e w3 ⟨x,rfl,G0⟩;have K2:=Below.next0 F1.out G0;have A1:=(Xe1 HW).step K2 I3;obtain ⟨N4,O1,E1,m4,Y3,A4⟩:=A1.cf;have V6:=A1.d1 (.bool false);have I5:=A1.d2 (.bool false) (.int .i64 0);have E3:=Xh2 A1 (Below.next0 (Xo0 HW) K2);clear A1 G0 K2))
      obtain ⟨k0,k1,k2,Z0⟩:=Q7d (Xo0 E3) (Xe1 E3) (Ue _) (.bool false) (.int .i64 0) (.slice none 0 0);clear N4 O1 E1 m4 Y3 A4 V6 I5;generalize World.setCell _ _ _=W5 at k0 k1 k2 Z0⊢;refine ⟨rfl,.tuple #[.agg #[.bool false,.int .i64 0,.slice none 0 0],.int .i64 5],by simp[results,go_sem,k0,k1,k2],Q5j.of (Q15.none_ HF.out) (Q2n.nil_ _ _) Z0⟩
    |some ex=>
     have hexb: -1000000<=ex/\ex<=1000000:=by
      have h:=Qq3 rest.data.toList ex y6;exact h
     obtain ⟨hex1,hex2⟩:=hexb;have Xi:∀W,Calls Tryz.prog 268 #[.string rest] W fun e w'=>e=.returned (.tuple #[.int .i64 ex,.bool true])/\Bw W w':=fun W=>((Xo0 HP) W).mono (by
      rintro e w' ⟨⟨x,ok,rfl,⟨rfl,h,_⟩|⟨_,h⟩⟩,hb⟩
      ·rw[y6] at h;injection h with h;subst h;exact ⟨rfl,hb⟩
      ·rw[y6] at h;cases h)
     rw[y6] at XS;have HPW:=Ub Xi;have HF:=Ub (show form s.data.toList=some (neg,dv u.data.toList,ex) from XS);clear Xi XS y6
     by_cases D9:(T[0]'R8)=48
     ·have XX:(((T[0]'R8).toNat:Int)==48)=true:=(by rw[D9];rfl);obtain rfl:neg=false:=by
       cases neg
       ·rfl
       ·exact absurd ⟨D9,.inl rfl⟩ HZ.out
      have h1I:¬(1:Int)<(T.size:Int):=fun h=>HZ.out ⟨D9,.inr (by omega)⟩;clear D9 ZH V9
      go_enter Tryz.func235,Tryz.ntmps235
      go_wp2_with (first
       |(go_at_call_of 173 (Value.string s);refine ((Xo0 HC) _).mono ?_;rintro e w1 ⟨rfl,rfl⟩)
       |(go_at_call_of 267 (Value.string T);refine ((Xe1 HC) _).mono ?_;rintro e w2 ⟨⟨k',rfl,K7⟩,D0⟩;obtain rfl:k=k':=by { rw[<-HK.out,<-(Xe1 HT)];exact Q20 K7 };have F1:=Ub D0;clear D0 K7)
       |(go_at_call_of 268 (Value.string rest);refine (HPW.out _).mono ?_;rintro e w3 ⟨rfl,G0⟩;have E3:=Ub (Below.next0 F1.out G0);clear G0)
       |(go_at_call_of 269 (Value.string u);refine ((Xo1 HP) _).mono ?_;rintro e w4 ⟨a4,n4,c4,rfl,I8,F2⟩;have M5:=Xh2 I8 (Below.next0 E3.out F2);clear I8 F2)
       |(refine (Q5a false a4 n4 c4 _ ex w4 (Xo0 M5) (HTI.out.step (Below.next0 (Xo0 HW) (Xe1 M5))) (by rw[<-(Xo0 M5).len];exact Un (Xe3 HP) (by decide)) (by omega) (by omega)).mono ?_;rintro e w5 ⟨neg5,e5,a5,n5,c5,L,er,rfl,B7,N7,Z0⟩;rw[Q0v (by decide)] at B7;have K2:=Below.next0 (Xe1 M5) Z0;have A1:=(Xe1 HW).step K2 I3;obtain ⟨N4,O1,E1,m4,Y3,A4⟩:=A1.cf;have V6:=A1.d1 (.bool neg5);have I5:=A1.d2 (.bool neg5) (.int .i64 e5);have S4:=Xh4 A1 (Below.next0 (Xo0 HW) K2) N7 B7;clear A1 Z0 K2 N7 B7))
      obtain ⟨k0,k1,k2,F3⟩:=Q7d (Xo0 S4) (Xo1 S4) (Ue _) (.bool neg5) (.int .i64 e5) (.slice a5 n5 c5);have P7:=(Xo2 S4);have QS:WordsIn _ a5 n5 c5 L:=⟨P7.len,P7.cap,P7.most,P7.low,(P7.rd.store3 (Xo0 S4) (fun _=>by simp[nv]) (fun _=>by simp[nv]) (fun _=>by simp[nv]) (.bool neg5) (.int .i64 e5) (.slice a5 n5 c5)).more (Q1i _ _ _ _ _)⟩;clear N4 O1 E1 m4 Y3 A4 V6 I5 P7;generalize World.setCell _ _ _=W5 at k0 k1 k2 F3 QS⊢;refine ⟨rfl,.tuple #[.agg #[.bool neg5,.int .i64 e5,.slice a5 n5 c5],.int .i64 er],by simp[results,go_sem,k0,k1,k2],Q5j.of (Q15.some_ HF.out (Xe3 S4)) (((Xo2 S4).lower (Below.next0 (Xo0 HW) (Xe1 M5)).size).on QS) F3⟩
     ·have XX:(((T[0]'R8).toNat:Int)==48)=false:=(by rw[Uk];intro e;exact D9 (Xa5.1 (show (T[0]'R8).toNat=48 by omega)));clear D9 ZH V9
      go_enter Tryz.func235,Tryz.ntmps235
      go_wp2_with (first
       |(go_at_call_of 173 (Value.string s);refine ((Xo0 HC) _).mono ?_;rintro e w1 ⟨rfl,rfl⟩)
       |(go_at_call_of 267 (Value.string T);refine ((Xe1 HC) _).mono ?_;rintro e w2 ⟨⟨k',rfl,K7⟩,D0⟩;obtain rfl:k=k':=by { rw[<-HK.out,<-(Xe1 HT)];exact Q20 K7 };have F1:=Ub D0;clear D0 K7)
       |(go_at_call_of 268 (Value.string rest);refine (HPW.out _).mono ?_;rintro e w3 ⟨rfl,G0⟩;have E3:=Ub (Below.next0 F1.out G0);clear G0)
       |(go_at_call_of 269 (Value.string u);refine ((Xo1 HP) _).mono ?_;rintro e w4 ⟨a4,n4,c4,rfl,I8,F2⟩;have M5:=Xh2 I8 (Below.next0 E3.out F2);clear I8 F2)
       |(refine (Q5a neg a4 n4 c4 _ ex w4 (Xo0 M5) (HTI.out.step (Below.next0 (Xo0 HW) (Xe1 M5))) (by rw[<-(Xo0 M5).len];exact Un (Xe3 HP) (by decide)) (by omega) (by omega)).mono ?_;rintro e w5 ⟨neg5,e5,a5,n5,c5,L,er,rfl,B7,N7,Z0⟩;rw[Q0v (by decide)] at B7;have K2:=Below.next0 (Xe1 M5) Z0;have A1:=(Xe1 HW).step K2 I3;obtain ⟨N4,O1,E1,m4,Y3,A4⟩:=A1.cf;have V6:=A1.d1 (.bool neg5);have I5:=A1.d2 (.bool neg5) (.int .i64 e5);have S4:=Xh4 A1 (Below.next0 (Xo0 HW) K2) N7 B7;clear A1 Z0 K2 N7 B7))
      obtain ⟨k0,k1,k2,F3⟩:=Q7d (Xo0 S4) (Xo1 S4) (Ue _) (.bool neg5) (.int .i64 e5) (.slice a5 n5 c5);have P7:=(Xo2 S4);have QS:WordsIn _ a5 n5 c5 L:=⟨P7.len,P7.cap,P7.most,P7.low,(P7.rd.store3 (Xo0 S4) (fun _=>by simp[nv]) (fun _=>by simp[nv]) (fun _=>by simp[nv]) (.bool neg5) (.int .i64 e5) (.slice a5 n5 c5)).more (Q1i _ _ _ _ _)⟩;clear N4 O1 E1 m4 Y3 A4 V6 I5 P7;generalize World.setCell _ _ _=W5 at k0 k1 k2 F3 QS⊢;refine ⟨rfl,.tuple #[.agg #[.bool neg5,.int .i64 e5,.slice a5 n5 c5],.int .i64 er],by simp[results,go_sem,k0,k1,k2],Q5j.of (Q15.some_ HF.out (Xe3 S4)) (((Xo2 S4).lower (Below.next0 (Xo0 HW) (Xe1 M5)).size).on QS) F3⟩
theorem Qo5 (L:LU) (k:Nat) {c:UInt8} (hc:c≠0):Lib.hasPrefix (L.drop k) [c]=decide (Q07 L k=c):=by
 rw[(Qh4 (L.drop k) c).1]
 by_cases hk:k<L.length
 ·rw[UG hk];simp only;rw[Q6j hk]
 ·rw[UW (by omega)];simp only;symm;rw[TX];intro h;exact hk (Q0k h hc)
theorem Q2n.off {w0 w:World} {a:OA} {n c:Nat} {L:LN} (h:Q2n w0 w a n c L):Qvb (·<w0.heap.size) a L:=h.new.imp id fun h2 x hx=>Nat.not_lt_of_le (h2 x hx)
theorem Qj9 (w:World) (k:Nat):Bw w (w.drewN k):=⟨rfl,rfl,rfl,Ue _,fun _ _=>rfl⟩
def Qtm (S:LU) (w:World) (s4 s5:Value) (wx:World):Prop:=∃v n' e' a' l' c' Lw er,s4=.pointer (some ⟨v,0,none⟩)/\s5=.int .i64 er/\Q15 S n' e' Lw er/\Q03 wx v (.bool n') (.int .i64 e') (.slice a' l' c')/\Q2n w wx a' l' c' Lw/\Bw w wx/\w.heap.size<=v/\v<wx.heap.size
theorem J1m {S:LU} {w w3:World} {n':Bool} {e' er:Int} {a':OA} {l' c':Nat} {Lw:LN} {T:TypeId} (h1:Q15 S n' e' Lw er) (h2:Q2n w w3 a' l' c' Lw) (h3:Bw w w3):
 Qtm S w (.pointer (some ⟨w3.heap.size,0,none⟩)) (.int .i64 er) (w3.alloc (.cells #[.bool n',.int .i64 e',.slice a' l' c'] T)):=
 ⟨_,n',e',a',l',c',Lw,er,rfl,rfl,h1,Q03.new w3 _ _ _ _,h2.on (h2.toWordsIn.step (Ba)),h3.alloc h3.size _,h3.size,Q0h _ _⟩
theorem J1n {S:LU} {w w3:World} {n':Bool} {e' er:Int} {a':OA} {l' c':Nat} {Lw:LN} (h1:Q15 S n' e' Lw er) (h2:Q2n w w3 a' l' c' Lw) (h3:Bw w w3) (h4:Q03 w3 w.heap.size (.bool false) (.int .i64 0) (.slice none 0 0)):
 Qtm S w (.pointer (some ⟨w.heap.size,0,none⟩)) (.int .i64 er) (((w3.setCell ⟨w.heap.size,0,none⟩ (.bool n')).setCell ⟨w.heap.size,1,none⟩ (.int .i64 e')).setCell ⟨w.heap.size,2,none⟩ (.slice a' l' c')):=
 ⟨_,n',e',a',l',c',Lw,er,rfl,rfl,h1,h4.store _ _ _,h2.on (h2.toWordsIn.set3 h4 _ _ _),Q03.below h3 (Ue _) _ _ _,Ue _,by simp only[UT];exact UA h4.c0⟩
theorem Qq4 {w:World} {R:Nat} {s:ByteArray} {p:Nat} {m d:Int} (h:Q0q w R s (p:Int) m d false) (hp:p<=s.size) (hs:s.size<=281474976710656) (hT:∀W,Q0e (OnR R) w W->Q1s W):
 Calls Tryz.prog 298 #[.pointer (some ⟨R,0,none⟩)] w (Q6w R s m d (Qld s.data.toList p) w):=by
 obtain ⟨L,hL⟩:∃L,s.data.toList=L:=⟨_,rfl⟩;have t8:L.length=s.size:=by rw[<-hL];rfl
 obtain ⟨K,hK⟩:∃K,Q1j L p=K:=⟨_,rfl⟩;have hKp:p<=K/\K<=s.size:=by rw[<-hK,<-t8];exact Qcs (by omega)
 obtain ⟨N,hN⟩:∃N,Qbm L p=N:=⟨_,rfl⟩;have hNK:K<=N/\N<=s.size:=by rw[<-hK,<-hN,<-t8];exact Qxm (by omega)
 obtain ⟨u1,KE⟩:∃u:ByteArray,s.extract K s.size=u:=⟨_,rfl⟩;obtain ⟨u2,Xg⟩:∃u:ByteArray,s.extract (K+1) s.size=u:=⟨_,rfl⟩;obtain ⟨u3,hu3⟩:∃u:ByteArray,s.extract p N=u:=⟨_,rfl⟩;have hu3l:u3.data.toList=(L.drop p).take (N-p):=by
  rw[<-hu3,<-hL];simp only[ByteArray.data_extract,Array.toList_extract,List.extract_eq_take_drop]
 have Yh:u3.size<=281474976710656:=by rw[<-hu3,ByteArray.size_extract];omega
 obtain ⟨b1,C0⟩:∃b,decide (Q07 L K=112)=b:=⟨_,rfl⟩;obtain ⟨b2,D0⟩:∃b,decide (Q07 L (K+1)=45)=b:=⟨_,rfl⟩;have QM:∀W,Calls Tryz.prog 162 #[.string u1,.string ⟨#[112]⟩] W fun e w'=>e=.returned (.bool b1)/\W=w':=fun W=>(Tryz.J3s u1 ⟨#[112]⟩ W).mono (by
  rintro e w' ⟨rfl,rfl⟩;refine ⟨?_,rfl⟩;rw[<-KE,Lib.extract_to_end,hL,<-C0];exact congrArg _ (congrArg _ (Qo5 L K (by decide))))
 have JF:∀W,Calls Tryz.prog 162 #[.string u2,.string ⟨#[45]⟩] W fun e w'=>e=.returned (.bool b2)/\W=w':=fun W=>(Tryz.J3s u2 ⟨#[45]⟩ W).mono (by
  rintro e w' ⟨rfl,rfl⟩;refine ⟨?_,rfl⟩;rw[<-Xg,Lib.extract_to_end,hL,<-D0];exact congrArg _ (congrArg _ (Qo5 L (K+1) (by decide))))
 have C3:=Qft h p hp hs;rw[hL,hK] at C3;have V2:=fun (a:Nat) (ha:a<=s.size)=>Qft h a ha hs;simp only[hL] at V2;have A1:N=if b1=true then (if b2=true then Q1j L (K+2) else Q1j L (K+1)) else K:=by
  rw[<-hN,<-C0,<-D0];unfold Qbm;rw[hK];simp only[Xaf]
 have hb1s:b1=true->K+1<=s.size:=fun e=>by
  rw[<-C0,Xaf] at e;have:=Q0k e (by decide);omega
 have hb2s:b2=true->K+2<=s.size:=fun e=>by
  rw[<-D0,Xaf] at e;have:=Q0k e (by decide);omega
 obtain ⟨c0,c1,_,_,_,_,f1,_,_,_,E0,_⟩:=id h;have Zt:=fun W (hb:Bw w W)=>Qj8 u3 W Yh (hT W (Q0e.of_below hb _));rw[hu3l] at Zt;have H:=Xh5 h hp hs E0 Zt;have HP:=Xh7 QM JF C3 V2 A1 hb1s hb2s;have HL:=Xh5 hL t8 hN hu3l Yh;have hK48:K<=281474976710656:=by omega
 have hwr1:IntKind.i64.wrap ((K:Int)+1)=(K:Int)+1:=by rw[UN];omega
 have Wj:IntKind.i64.wrap ((K:Int)+1+1)=(K:Int)+1+1:=by rw[UN];omega
 have hKn:((K:Int)).toNat=K:=by omega
 have hKn1:((K:Int)+1).toNat=K+1:=by omega
 have hpn:((p:Int)).toNat=p:=by omega
 have hNn:((N:Int)).toNat=N:=by omega
 have hK0:(0:Int)<=(K:Int):=by omega
 have hK2:(K:Int)<=(s.size:Int):=by omega
 have hpN:(p:Int)<=(N:Int):=by omega
 have hNs:(N:Int)<=(s.size:Int):=by omega
 have HK:=Xh2 hKp hNK;clear h hp hs hT hL t8 hK hN hu3l Yh C0 D0 QM JF C3 V2 A1 hb1s hb2s E0 Zt hKp hNK hK48
 go_enter Tryz.func298,Tryz.ntmps298
 go_upto_if 18 with (first
  |(go_at_call_of 310 (Value.int IntKind.i64 (p:Int));refine (Xo2 HP).mono ?_;rintro r w1 ⟨rfl,rfl⟩)
  |(go_at_call_of 162 (Value.string u1);refine ((Xo0 HP) _).mono ?_;rintro r w1 ⟨rfl,rfl⟩))
 go_cut [3] (fun v wx=>v=.int .i64 (N:Int)/\w=wx)
 case first=>
  cases b1
  ·have HN:=Ub (show K=N from ((Xo4 HP)).symm)
   go_wp2_with (fail)
   go_meet;exact ⟨by rw[HN.out],rfl⟩
  ·have A1:=(Xo4 HP);cases b2
   ·have HN:=Ub (show Q1j L (K+1)=N from A1.symm);have hd:=(Xo3 HP) (K+1) ((Xo5 HP) rfl);rw[show ((K+1:Nat):Int)=(K:Int)+1 by omega] at hd;have HD:=Ub hd;clear hd;have hKle:(K:Int)+1<=(s.size:Int):=(by have:=(Xo5 HP) rfl;omega);clear A1
    go_wp2_with (first
     |(go_at_call_of 162 (Value.string u2);refine ((Xo1 HP) _).mono ?_;rintro r w1 ⟨rfl,rfl⟩)
     |(go_at_call_of 310 (Value.pointer (some ⟨R,0,none⟩));refine HD.out.mono ?_;rintro r w1 ⟨rfl,rfl⟩))
    go_meet;exact ⟨by rw[HN.out],rfl⟩
   ·have HN:=Ub (show Q1j L (K+2)=N from A1.symm);have hd:=(Xo3 HP) (K+2) ((Xe6 HP) rfl);rw[show ((K+2:Nat):Int)=(K:Int)+1+1 by omega] at hd;have HD:=Ub hd;clear hd;have hKle:(K:Int)+1<=(s.size:Int):=(by have:=(Xo5 HP) rfl;omega);clear A1
    go_wp2_with (first
     |(go_at_call_of 162 (Value.string u2);refine ((Xo1 HP) _).mono ?_;rintro r w1 ⟨rfl,rfl⟩)
     |(go_at_call_of 310 (Value.pointer (some ⟨R,0,none⟩));refine HD.out.mono ?_;rintro r w1 ⟨rfl,rfl⟩))
    go_meet;exact ⟨by rw[HN.out],rfl⟩
 case rest=>
  obtain ⟨rfl,rfl⟩:=hcut
  go_upto_region 7 with fail
  go_cut [4,5] (fun s4 s5 wx=>Qtm ((L.drop p).take (N-p)) w s4 s5 wx)
  case first=>
   have d0:w.drew.cell? ⟨R,0,none⟩=some (.string s):=c0;have d1:w.drew.cell? ⟨R,1,none⟩=some (.int .i64 (p:Int)):=c1;have J1:=(Ug w.heap.size w).alloc (Ue _) (.cells #[.bool false,.int .i64 0,.slice none 0 0] 26);have hRa:=(Xo0 H).step J1;have a0:=hRa.c0;have a1:=hRa.c1;have hRb:=hRa.drew;have b0:=hRb.c0;have b1':=hRb.c1;have hRc:=(Xo0 H).drew.step ((Ug w.drew.heap.size w.drew).alloc (Ue _) (.cells #[.bool false,.int .i64 0,.slice none 0 0] 26));have g0:=hRc.c0;have g1:=hRc.c1;clear J1 hRa hRb hRc
   go_region_law (
    refine Q3h (by rfl) 235 #[.string u3] (by simp[go_sem]) ?_;refine ((Xe4 H) _ ?_).mono ?_
    (first|exact Q04 w|exact Below.next0 ((Ug w.heap.size w).alloc (Ue _) _) (Q04 _)|exact (Ug w.heap.size w).alloc (Ue _) _|exact Below.next0 (Q04 w) (Ba))
    rintro r w3 ⟨n',e',a',l',c',Lw,er,rfl,S6,i6,G0⟩;refine ⟨_,rfl,?_⟩;have E4:Bw w w3:=by
     first
      |exact Below.next0 (Q04 w) G0
      |exact Below.next0 ((Ug w.heap.size w).alloc (Ue _) _) G0
      |exact Below.next0 (Below.next0 ((Ug w.heap.size w).alloc (Ue _) _) (Q04 _)) G0
      |exact Below.next0 (Below.next0 (Q04 w) (Ba)) G0
    (first
      |(have hM:=((Q03.new w (.bool false) (.int .i64 0) (.slice none 0 0) 26).step (Q04 _) (Q0h _ _)).step G0 (by show _<(World.alloc _ _).heap.size;exact Q0h _ _)
        have hS:=hM.store (.bool n') (.int .i64 e') (.slice a' l' c');obtain ⟨o0,o1,o2,u0,u1,u2⟩:=hM.cf;have HS:=Xh2 hM hS;clear hM hS)
      |skip)
    have A9:Q2n w w3 a' l' c' Lw:=by
     first
      |exact Q2n.lower (w0:=w) i6 (Ue _)
      |exact Q2n.lower (w0:=w) i6 (Xa1 (Q0h w _))
    have HZ:=Xh3 S6 A9 E4;clear S6 i6 G0 E4 A9)
   all_goals go_wp2_with fail
   all_goals go_meet
   all_goals first
    |exact J1m (Xo0 HZ) (Xo1 HZ) (Xe2 HZ)
    |exact J1n (Xo0 HZ) (Xo1 HZ) (Xe2 HZ) (Xo0 HS)
  case rest=>
   obtain ⟨v,n',e',a',l',c',Lw,er,rfl,rfl,S6,K2,i6,O0,J8,i8⟩:=hcut;have hr:=(Xo0 H).step O0;have hvR:v≠R:=(by have:=(Xo3 H);omega);unfold Q15 at S6;cases hF:form ((L.drop p).take (N-p)) with
   |none=>
    rw[hF] at S6;obtain ⟨rfl,rfl,rfl,rfl⟩:=S6;have I1:Qld L p=.error p:=(by unfold Qld;rw[(Xo2 HL),hF]);have hwg:=Q5i hr (p:Int);simp only[Th,Xac] at hwg;have k1:=hr.c1;have HR:=Xh3 hwg O0 I1;clear hr K2 i6 O0 hwg I1 hF c0 c1 f1
    go_wp2_with (refine (Xo0 HR).mono ?_;rintro r w4 ⟨rfl,Y9,I9⟩;have HB:=Xh2 Y9 I9;clear Y9 I9)
    go_ret;rw[(Xo0 HL),(Xe2 HR)];exact ⟨_,_,rfl,(Q0e.of_below (Xo1 HR) _).trans0 (Xe1 HB),(Xo0 HB),(Xo1 H)⟩
   |some z=>
    obtain ⟨neg,v0,e0⟩:=z;rw[hF] at S6;have t7:=Q81 S6;have I1:Qld L p=.ok (.num (if Q9k (dy (sgn neg v0) e0)=true then some (dy (sgn neg v0) e0) else none),N):=(by unfold Qld;rw[(Xo2 HL),hF]);have k1:=hr.c1;have g1:=hr.f1;have Xj:=K2.far (p:=⟨R,1,none⟩) (fun e=>hvR e.symm) (.int .i64 (N:Int));obtain ⟨o0,o1,o2⟩:=Xj.cc;have ZQ:((er:Int)==5)=false:=by
     rw[Uk];rcases t7 with ⟨_,h,_⟩|⟨_,h,_⟩ <;> omega
    have HR:=Xh5 hr O0 I1 t7 i6;clear hr K2 i6 O0 I1 t7 S6 hF c0 c1 f1 Xj
    go_wp2_with fail
    go_ret;rw[(Xo0 HL),(Xo2 HR)];refine ⟨_,_,rfl,(Q0e.of_below (Xo1 HR) _).trans0 (Q1x _ _ _ _),?_,(Xo0 HR).setAt (N:Int),(Xe2 HK)⟩;rcases (Xo3 HR) with ⟨h1,rfl,h3,h4⟩|⟨h1,rfl,_⟩
    ·rw[Us ((Q17 _).2 h1),Q2w];exact ⟨n',e',a',l',c',Lw,rfl,(Xe4 HR).toWordsIn.set1 (Xo0 HR).c1 (fun _=>by simp[nv]) _,(Xe4 HR).off,h3,h4⟩
    ·rw[Up (fun h=>h1 ((Q17 _).1 h)),Q2w];exact ⟨_,_,_,_,_,rfl⟩
def Q4p (bad:Bool) (p:Nat) (r:PR Ex):PR Ex:=if bad=true then .error p else r
theorem Q6w.lift {R:Nat} {s:ByteArray} {m d:Int} {res:PR Ex} {w0 w:World} {e:Ending} {w':World} (ht:Q0e (OnR R) w0 w) (h:Q6w R s m d res w e w'):Q6w R s m d res w0 e w':=by
 obtain ⟨t,u,rfl,h1,h2⟩:=h;refine ⟨t,u,rfl,ht.trans0 h1,?_⟩;cases res with
 |error q=>exact h2
 |ok z=>exact ⟨h2.1.more fun k hk=>.inl (Uc hk ht.size),h2.2⟩
theorem Q6w.okd {R:Nat} {s:ByteArray} {m d:Int} {w0 w':World} {x:Ex} {q:Nat} {t:TypeId} {u:Value} (ht:Q0e (OnR R) w0 w') (hx:Q2w (·<w0.heap.size) w' x (.iface t u)) (hr:Q0q w' R s (q:Int) m d false) (hq:q<=s.size):Q6w R s m d (.ok (x,q)) w0 (.returned (.iface t u)) w':=⟨t,u,rfl,ht,hx,hr,hq⟩
theorem Q6w.err {R:Nat} {s:ByteArray} {m d:Int} {w0 w':World} {q:Nat} {t:TypeId} {u:Value} (ht:Q0e (OnR R) w0 w') (hr:Q0q w' R s (q:Int) m d true) (hq:q<=s.size):Q6w R s m d (.error q) w0 (.returned (.iface t u)) w':=⟨t,u,rfl,ht,hr,hq⟩
theorem Qdp {c:UInt8} {k:Nat} (hk:k<256) (h:c≠UInt8.ofNat k):((c.toNat:Int)==(k:Int))=false:=by
 rw[Uk];intro e;exact h (Xa5.1 (by rw[UInt8.toNat_ofNat'];omega))
theorem Qtn {L:LU} {p:Nat} {c:UInt8}:Q2f L [c] p=if Q07 L p=c then .ok (p+1) else .error p:=by
 rw[Q2f]
 split
 ·rw[Q2f]
 ·rfl
def Qxt (L:LU) (r:PR Ex):PR Ex:=match r with
 | .error e=>.error e
 | .ok (x,q)=>if Q07 L (Q05 L q)=41 then .ok (x,Q05 L q+1) else .error (Q05 L q)
theorem Qwg {w:World} {R:Nat} {s:ByteArray} {p most:Nat} {d:Int} {bad:Bool} (sub:Nat->PR Ex) (h:Q0q w R s (p:Int) (most:Int) d bad) (hp:p<=s.size) (hs:s.size<=281474976710656) (E9:0<=d) (hd:d<=16) (hT:∀W,Q0e (OnR R) w W->Q1s W)
 (o7:d<16->∀(W:World) (q:Nat),Q0q W R s (q:Int) (most:Int) (d+1) false->q<=s.size->(∀W',Q0e (OnR R) W W'->Q1s W')->Calls Tryz.prog 130 #[.pointer (some ⟨R,0,none⟩)] W (Q6w R s (most:Int) (d+1) (sub q) W)):
 Calls Tryz.prog 273 #[.pointer (some ⟨R,0,none⟩)] w (Q6w R s (most:Int) d (Q4p bad p (Q6c sub (decide (d<16)) s.data.toList most p)) w):=by
 obtain ⟨L,hL⟩:∃L,s.data.toList=L:=⟨_,rfl⟩;have t8:L.length=s.size:=by rw[<-hL];rfl
 have D3:=Q3m h hp hs;rw[hL] at D3⊢;obtain ⟨q,hq⟩:∃q,skS L p bad=q:=⟨_,rfl⟩;obtain ⟨c,hc⟩:∃c,nxB L q bad=c:=⟨_,rfl⟩;have JH:q<=s.size:=by
  rw[<-hq];unfold skS
  split
  ·exact hp
  ·rw[<-t8];exact Q3a (by omega)
 rw[hq,hc] at D3;have G4:IntKind.i64.wrap ((q:Int)+1)=(q:Int)+1:=by rw[UN];omega
 have H:=Xh6 hL t8 JH hs D3 hT;have HB:=Ub o7;have HD:=Xh2 E9 hd;have HC:=Ub hc;have HQ:=Ub hq;clear h hp hs hL t8 JH D3 hT o7 hc hq E9 hd;cases bad with
 |true=>
  obtain rfl:q=p:=by have:=HQ.out;simp only[skS,Xaz] at this;exact this.symm
  obtain rfl:c=0:=by have:=HC.out;simp only[nxB,Xaz] at this;exact this.symm
  have I1:Q4p true q (Q6c sub (decide (d<16)) L most q)=.error q:=rfl;rw[I1];clear I1;have n48:¬(48:Int)<=(((0:UInt8).toNat:Nat):Int):=by decide
  have n120:((((0:UInt8).toNat:Nat):Int)==120)=false:=by decide
  have n40:((((0:UInt8).toNat:Nat):Int)==40)=false:=by decide
  go_enter Tryz.func273,Tryz.ntmps273
  go_wp2_with (first
   |(go_at_call_of 131 (Value.pointer (some ⟨R,0,none⟩));refine (Xo4 H).mono ?_;rintro r w1 ⟨rfl,I2,Q2⟩;have k1:=I2.c1;have H1:=Xh2 I2 Q2;clear I2 Q2)
   |(go_at_call_of 182 (Value.pointer (some ⟨R,0,none⟩));refine (Q5i (Xo0 H1) _).mono ?_;rintro r w2 ⟨rfl,X0,M1⟩;have H2:=Xh2 X0 M1;clear X0 M1))
  go_ret;exact Q6w.err ((Xe1 H1).trans0 (Xe1 H2)) (by have h:=(Xo0 H2);simpa using h) (Xo2 H)
 |false=>
  have WZ:Q05 L p=q:=by have:=HQ.out;simpa[skS] using this
  have X3:Q07 L q=c:=by have:=HC.out;simpa[nxB] using this
  have I1:Q4p false p (Q6c sub (decide (d<16)) L most p)=Q6c sub (decide (d<16)) L most p:=rfl;rw[I1];clear I1;obtain ⟨X,hX⟩:∃X,Q6c sub (decide (d<16)) L most p=X:=⟨_,rfl⟩;rw[hX];have XN:X=(if 48<=c.toNat/\c.toNat<=57 then Qld L q
   else if c=120 then
    (if 49<=(Q07 L (q+1)).toNat/\(Q07 L (q+1)).toNat<=48+most then .ok (.var ((Q07 L (q+1)).toNat-49),q+2) else .error (q+1))
   else if c=40/\decide (d<16)=true then
    Qxt L (sub (q+1))
   else .error q):=by
   rw[<-hX];unfold Q6c;rw[WZ,X3];rfl
  have HR:=Xh3 XN WZ X3;clear XN WZ X3 hX
  by_cases Z4:48<=c.toNat/\c.toNat<=57
  ·have n1:(48:Int)<=(c.toNat:Int):=(by omega);have n2:(c.toNat:Int)<=57:=(by omega);have I1:X=Qld L q:=(by rw[(Xo0 HR),Us Z4]);have HE:=Ub I1;clear I1 Z4
   go_enter Tryz.func273,Tryz.ntmps273
   go_wp2_with (first
    |(go_at_call_of 131 (Value.pointer (some ⟨R,0,none⟩));refine (Xo4 H).mono ?_;rintro r w1 ⟨rfl,I2,Q2⟩;have H1:=Xh2 I2 Q2;clear I2 Q2)
    |(go_at_call_of 298 (Value.pointer (some ⟨R,0,none⟩));refine (Qq4 (Xo0 H1) (Xo2 H) (Xo3 H) (fun W hW=>(Xe5 H) W ((Xe1 H1).trans0 hW))).mono ?_;rintro r w2 ⟨t,u,rfl,hN⟩;have H2:=Ub (show Q6w R s (most:Int) d (Qld s.data.toList q) w1 (.returned (.iface t u)) w2 from ⟨t,u,rfl,hN⟩);clear hN))
   go_ret;have h2:=H2.out;rw[(Xo0 H),<-HE.out] at h2;exact h2.lift (Xe1 H1)
  ·have K5:(48:Int)<=(c.toNat:Int)->¬(c.toNat:Int)<=57:=by omega
   by_cases hx:c=120
   ·subst hx;have n1:(48:Int)<=(((120:UInt8).toNat:Nat):Int):=(by decide);have n2:¬(((120:UInt8).toNat:Nat):Int)<=57:=(by decide);have n3:((((120:UInt8).toNat:Nat):Int)==120)=true:=(by decide);have I1:X=(if 49<=(Q07 L (q+1)).toNat/\(Q07 L (q+1)).toNat<=48+most then .ok (.var ((Q07 L (q+1)).toNat-49),q+2) else .error (q+1)):=(by rw[(Xo0 HR),Up Z4,Us rfl]);have o6:q+1<=s.size:=(by have:=Q0k (Xe2 HR) (by decide);have:=(Xo1 H);omega);have HX:=Ub o6;have HE:=Ub I1;clear I1 Z4 K5 o6
    go_enter Tryz.func273,Tryz.ntmps273
    go_wp2_with (first
     |(go_at_call_of 131 (Value.pointer (some ⟨R,0,none⟩));refine (Xo4 H).mono ?_;rintro r w1 ⟨rfl,I2,Q2⟩;have k1:=I2.c1;have g1:=I2.f1;have Jr:=I2.setAt ((q:Int)+1);have k2:=Jr.c2;have H1:=Xh2 I2 Q2;have HS1:=Ub Jr;clear I2 Q2 Jr)
     |(go_at_call_of 274 (Value.pointer (some ⟨R,0,none⟩));refine (Qfs (p:=q+1) (show Q0q _ R s (((q+1:Nat)):Int) (most:Int) d false from HS1.out) HX.out (Xo3 H) 1 (most:Int) (by decide)).mono ?_;rintro r w2 ⟨Q7,M1⟩;obtain ⟨z,hz⟩:∃z:Int,r=.returned (.int .i64 z):=by { rcases Q7 with ⟨_,_,_,h,_⟩|⟨_,h,_⟩ <;> exact ⟨_,h⟩ };subst hz;have YL:IntKind.i64.wrap (z-1)=z-1:=by { rcases Q7 with ⟨_,h1,_,h,_⟩|⟨_,h,_⟩ <;> { injection h with h;injection h with _ h;rw[UN];have:=(Q07 s.data.toList (q+1)).toNat_lt;omega } };have H2:=Xh2 Q7 M1;clear Q7 M1))
    go_ret;obtain ⟨Q7,M1⟩:=H2.out;have ht:=((Xe1 H1).trans0 (Q1x w1 R 1 (.int .i64 ((q:Int)+1)))).trans0 M1;rw[(Xo0 H)] at Q7;rcases Q7 with ⟨_,h1,h2,h3,h4⟩|⟨h1,h3,h4⟩
    ·injection h3 with h3;injection h3 with _ h3;subst h3;rw[HE.out,Us ⟨by omega,by omega⟩];refine Q6w.okd ht ?_ h4 ?_
     ·rw[Q2w];exact congrArg (fun z=>Value.iface _ (.agg #[.int .i64 z])) (by omega)
     ·have h5:Q07 L (q+1)≠0:=fun e=>by rw[e] at h1;exact absurd h1 (by decide)
      have:=Q6a h5;have:=(Xo1 H);omega
    ·rw[HE.out,Up (fun h=>h1 ⟨trivial,by omega,by omega⟩)];exact Q6w.err ht h4 HX.out
   ·have n3:=Qdp (k:=120) (by decide) hx
    by_cases h40:c=40/\d<16
    ·obtain ⟨rfl,hdl⟩:=h40;have n1:¬(48:Int)<=(((40:UInt8).toNat:Nat):Int):=(by decide);have n4:((((40:UInt8).toNat:Nat):Int)==40)=true:=(by decide);have I1:X=Qxt L (sub (q+1)):=(by rw[(Xo0 HR),Up Z4,Up hx,Us ⟨rfl,UQ hdl⟩]);have o6:q+1<=s.size:=(by have:=Q0k (Xe2 HR) (by decide);have:=(Xo1 H);omega);have hwd1:IntKind.i64.wrap (d+1)=d+1:=(by rw[UN];have:=HD.out;omega);have hwd2:IntKind.i64.wrap (d+1-1)=d:=(by rw[UN];have:=HD.out;omega);have hwd3:IntKind.i64.wrap d=d:=(by rw[UN];have:=HD.out;omega);have HX:=Xh2 o6 (HB.out hdl);have HE:=Ub I1;clear I1 Z4 K5 o6 hx
     go_enter Tryz.func273,Tryz.ntmps273
     go_upto_region 11 with (first
      |(go_at_call_of 131 (Value.pointer (some ⟨R,0,none⟩));refine (Xo4 H).mono ?_;rintro r w1 ⟨rfl,I2,Q2⟩;have k1:=I2.c1;have k3:=I2.c3;have g1:=I2.f1;have Jr:=I2.setAt ((q:Int)+1);have k3s:=Jr.c3;have g3s:=Jr.f3;have H1:=Xh2 I2 Q2;have HS1:=Ub (Jr.setDeep (d+1));clear I2 Q2 Jr)
      |(go_at_call_of 130 (Value.pointer (some ⟨R,0,none⟩));refine ((Xe1 HX) _ (q+1) (show Q0q _ R s (((q+1:Nat)):Int) (most:Int) (d+1) false from HS1.out) (Xo0 HX) (fun W hW=>(Xe5 H) W (((Xe1 H1).trans0 ((Q1x w1 R 1 (.int .i64 ((q:Int)+1))).trans0 (Q1x _ R 3 (.int .i64 (d+1))))).trans0 hW))).mono ?_;rintro r w2 ⟨t,u,rfl,M1,hN⟩;have H2:=Xh2 (((Xe1 H1).trans0 ((Q1x w1 R 1 (.int .i64 ((q:Int)+1))).trans0 (Q1x _ R 3 (.int .i64 (d+1))))).trans0 M1) hN;clear M1 hN))
     cases hS:sub (q+1) with
     |error e=>
      have h2:=(Xe1 H2);rw[hS] at h2;have I1:X=.error e:=(by rw[HE.out,hS];rfl);have k3:=h2.1.c3;have g3:=h2.1.f3;have m7:=h2.1.setDeep d;have D3:=Q3m m7 h2.2 (Xo3 H);simp only[skS,Xaz] at D3;have Xm:=fun W (hW:Q0q W R s (e:Int) (most:Int) d true)=>Qa1 hW h2.2 (Xo3 H) ⟨#[41]⟩ (by decide) (by decide) (by decide);simp only[Xaz] at Xm;have H3:=Xh4 I1 h2.2 D3 Xm;clear h2 I1 m7 D3 Xm hS
      go_wp2_with (first
       |(go_at_call_of 131 (Value.pointer (some ⟨R,0,none⟩));refine (Xo2 H3).mono ?_;rintro r w4 ⟨rfl,Y9,I9⟩;have H4:=Xh2 Y9 I9;clear Y9 I9)
       |(go_at_call_of 129 (Value.pointer (some ⟨R,0,none⟩));refine ((Xe3 H3) w4 (Xo0 H4)).mono ?_;rintro r w5 ⟨rfl,JV,XQ⟩;have H5:=Xh2 XQ JV;clear XQ JV))
      go_ret;rw[(Xo0 H3)];exact Q6w.err ((((Xo0 H2).trans0 (Q1x w2 R 3 (.int .i64 d))).trans0 (Xe1 H4)).trans0 (Xe1 H5)) (Xo0 H5).1 (Xo0 H5).2
     |ok z=>
      obtain ⟨x,q2⟩:=z;have h2:=(Xe1 H2);rw[hS] at h2;obtain ⟨q3,QR⟩:∃q3,Q05 L q2=q3:=⟨_,rfl⟩;have hq3s:q3<=s.size:=(by rw[<-QR,<-(Xo1 H)];exact Q3a (by have:=(Xo1 H);have:=h2.2.2;omega));have I1:X=if Q07 L q3=41 then .ok (x,q3+1) else .error q3:=by rw[HE.out,hS,<-QR];rfl
      have k3:=h2.2.1.c3;have g3:=h2.2.1.f3;have m7:=h2.2.1.setDeep d;have D3:=Q3m m7 h2.2.2 (Xo3 H);rw[(Xo0 H)] at D3;simp only[skS,Th,Xac,QR] at D3;have Xm:=fun W (hW:Q0q W R s (q3:Int) (most:Int) d false)=>Qa1 hW hq3s (Xo3 H) ⟨#[41]⟩ (by decide) (by decide) (by decide);have Y3:Q2f L [41] q3=if Q07 L q3=41 then .ok (q3+1) else .error q3:=Qtn
      rw[(Xo0 H)] at Xm;simp only[Th,Xac] at Xm;have H3:=Xh5 I1 h2.1 D3 Xm Y3;clear h2 I1 m7 D3 Xm hS Y3 QR hq3s
      go_wp2_with (first
       |(go_at_call_of 131 (Value.pointer (some ⟨R,0,none⟩));refine (Xo2 H3).mono ?_;rintro r w4 ⟨rfl,Y9,I9⟩;have H4:=Xh2 Y9 I9;clear Y9 I9)
       |(go_at_call_of 129 (Value.pointer (some ⟨R,0,none⟩));refine ((Xo3 H3) w4 (Xo0 H4)).mono ?_;rintro r w5 ⟨rfl,JV,XQ⟩;have H5:=Xh2 XQ JV;clear XQ JV))
      go_ret;have ht35:=((Q1x w2 R 3 (.int .i64 d)).trans0 (Xe1 H4)).trans0 (Xe1 H5);have ht:=(Xo0 H2).trans0 ht35;have h5:=(Xo0 H5);have W7:Qj6 R s (most:Int) d (Q2f L [41] q3) w5:=h5;rw[(Xe4 H3)] at W7;rw[(Xo0 H3)]
      by_cases h41:Q07 L q3=41
      ·rw[Us h41] at W7⊢;refine Q6w.okd ht ?_ W7.1 W7.2;have h6:=(Xo1 H3).turn ht35 (fun k (hk:k=R)=>by subst hk;simp only[UT];exact (Xo0 H1).lt);exact h6.more fun k hk=>.inl (by simp only[UT];exact Uc hk (Xe1 H1).size)
      ·rw[Up h41] at W7⊢;exact Q6w.err ht W7.1 W7.2
    ·have I1:X=.error q:=by
      rw[(Xo0 HR),Up Z4,Up hx,Up (fun h=>h40 ⟨h.1,Xa0 h.2⟩)]
     have HE:=Ub I1;clear I1;have hcut:∀b:Bool,b=((c.toNat:Int)==40)->(b=false∨b=true/\¬d<16):=by
      intro b hb
      by_cases hc:c=40
      ·exact .inr ⟨by rw[hb,hc];rfl,fun hd=>h40 ⟨hc,hd⟩⟩
      ·exact .inl (by rw[hb];exact Qdp (k:=40) (by decide) hc)
     have C6:¬((48:Int)<=(c.toNat:Int)/\(c.toNat:Int)<=57):=(by omega);rcases hcut _ rfl with n40|⟨n40,nd⟩
     ·clear hcut h40 hx Z4 K5
      by_cases n48:(48:Int)<=(c.toNat:Int)
      ·have n57:¬(c.toNat:Int)<=57:=(by omega);clear C6
       go_enter Tryz.func273,Tryz.ntmps273
       go_wp2_with (first
        |(go_at_call_of 131 (Value.pointer (some ⟨R,0,none⟩));refine (Xo4 H).mono ?_;rintro r w1 ⟨rfl,I2,Q2⟩;have k1:=I2.c1;have k3:=I2.c3;have H1:=Xh2 I2 Q2;clear I2 Q2)
        |(go_at_call_of 182 (Value.pointer (some ⟨R,0,none⟩));refine (Q5i (Xo0 H1) _).mono ?_;rintro r w2 ⟨rfl,X0,M1⟩;have H2:=Xh2 X0 M1;clear X0 M1))
       go_ret;rw[HE.out];exact Q6w.err ((Xe1 H1).trans0 (Xe1 H2)) (by have h:=(Xo0 H2);simpa using h) (Xo2 H)
      ·clear C6
       go_enter Tryz.func273,Tryz.ntmps273
       go_wp2_with (first
        |(go_at_call_of 131 (Value.pointer (some ⟨R,0,none⟩));refine (Xo4 H).mono ?_;rintro r w1 ⟨rfl,I2,Q2⟩;have k1:=I2.c1;have k3:=I2.c3;have H1:=Xh2 I2 Q2;clear I2 Q2)
        |(go_at_call_of 182 (Value.pointer (some ⟨R,0,none⟩));refine (Q5i (Xo0 H1) _).mono ?_;rintro r w2 ⟨rfl,X0,M1⟩;have H2:=Xh2 X0 M1;clear X0 M1))
       go_ret;rw[HE.out];exact Q6w.err ((Xe1 H1).trans0 (Xe1 H2)) (by have h:=(Xo0 H2);simpa using h) (Xo2 H)
     ·have hc40:(c.toNat:Int)=40:=(by simpa using n40);have n48:¬(48:Int)<=(c.toNat:Int):=(by omega);clear hcut h40 hx Z4 K5 C6 hc40
      go_enter Tryz.func273,Tryz.ntmps273
      go_wp2_with (first
       |(go_at_call_of 131 (Value.pointer (some ⟨R,0,none⟩));refine (Xo4 H).mono ?_;rintro r w1 ⟨rfl,I2,Q2⟩;have k1:=I2.c1;have k3:=I2.c3;have H1:=Xh2 I2 Q2;clear I2 Q2)
       |(go_at_call_of 182 (Value.pointer (some ⟨R,0,none⟩));refine (Q5i (Xo0 H1) _).mono ?_;rintro r w2 ⟨rfl,X0,M1⟩;have H2:=Xh2 X0 M1;clear X0 M1))
      go_ret;rw[HE.out];exact Q6w.err ((Xe1 H1).trans0 (Xe1 H2)) (by have h:=(Xo0 H2);simpa using h) (Xo2 H)
def Qdq (L:LU) (r:PR Ex):PR Ex:=match r with
 | .error e=>.error e
 | .ok (b,q)=>if Q07 L (Q05 L q)=94 then
    (if 48<=(Q07 L (Q05 L (Q05 L q+1))).toNat/\(Q07 L (Q05 L (Q05 L q+1))).toNat<=56 then .ok (.pow b ((Q07 L (Q05 L (Q05 L q+1))).toNat-48),Q05 L (Q05 L q+1)+1) else .error (Q05 L (Q05 L q+1)))
   else .ok (b,Q05 L q)
theorem Qwh (sub:Nat->PR Ex) (opens:Bool) (L:LU) (most p:Nat) (bad:Bool):Q4p bad p (Q2r sub opens L most p)=Qdq L (Q4p bad p (Q6c sub opens L most p)):=by
 cases bad
 ·show Q2r sub opens L most p=Qdq L (Q6c sub opens L most p)
  unfold Q2r Qdq;cases Q6c sub opens L most p <;> rfl
 ·rfl
theorem Qja {fp:Nat->Prop} {R:Nat} {w w':World} {x:Ex} {v:Value} (h:Q2w fp w x v) (ht:Q0e (OnR R) w w') (hR:fp R):Q2w fp w' x v:=h.turn ht fun k (hk:k=R)=>by subst hk;exact hR
theorem Qq5 {w:World} {R:Nat} {s:ByteArray} {p most:Nat} {d:Int} {bad:Bool} (sub:Nat->PR Ex) (h:Q0q w R s (p:Int) (most:Int) d bad) (hp:p<=s.size) (hs:s.size<=281474976710656) (E9:0<=d) (hd:d<=16) (hT:∀W,Q0e (OnR R) w W->Q1s W)
 (o7:d<16->∀(W:World) (q:Nat),Q0q W R s (q:Int) (most:Int) (d+1) false->q<=s.size->(∀W',Q0e (OnR R) W W'->Q1s W')->Calls Tryz.prog 130 #[.pointer (some ⟨R,0,none⟩)] W (Q6w R s (most:Int) (d+1) (sub q) W)):
 Calls Tryz.prog 238 #[.pointer (some ⟨R,0,none⟩)] w (Q6w R s (most:Int) d (Q4p bad p (Q2r sub (decide (d<16)) s.data.toList most p)) w):=by
 have hb:=Qwg sub h hp hs E9 hd hT o7;have hRw:=h.lt;rw[Qwh];obtain ⟨L,hL⟩:∃L,s.data.toList=L:=⟨_,rfl⟩;have t8:L.length=s.size:=by rw[<-hL];rfl
 rw[hL] at hb⊢;obtain ⟨r0,u4⟩:∃r0,Q4p bad p (Q6c sub (decide (d<16)) L most p)=r0:=⟨_,rfl⟩;rw[u4] at hb⊢;obtain ⟨X,hX⟩:∃X,Qdq L r0=X:=⟨_,rfl⟩;rw[hX];have H:=Xh6 hL t8 hs hb hX hRw;clear h hp hs hT o7 hb hL t8 u4 E9 hd hX hRw
 go_enter Tryz.func238,Tryz.ntmps238
 go_upto_region 2 with (go_at_call_of 273 (Value.pointer (some ⟨R,0,none⟩));refine (Xo3 H).mono ?_;rintro r w1 ⟨t,u,rfl,Q2,hN⟩;have H1:=Xh2 Q2 hN;clear Q2 hN)
 cases r0 with
 |error e=>
  have h1:=(Xe1 H1);have D3:=Q3m h1.1 h1.2 (Xo2 H);simp only[skS,nxB,Xaz] at D3;have H2:=Xh2 D3 h1.2;clear D3 h1;have n94:((((0:UInt8).toNat:Nat):Int) != 94)=true:=by decide
  go_wp2_with (go_at_call_of 131 (Value.pointer (some ⟨R,0,none⟩));refine (Xo0 H2).mono ?_;rintro r w2 ⟨rfl,X0,M1⟩;have H3:=Xh2 X0 M1;clear X0 M1)
  go_ret;have hX:X=.error e:=(Xo4 H).symm;rw[hX];exact Q6w.err ((Xo0 H1).trans0 (Xe1 H3)) (Xo0 H3) (Xe1 H2)
 |ok z=>
  obtain ⟨x,q0⟩:=z;have h1:=(Xe1 H1);obtain ⟨q,hq⟩:∃q,Q05 L q0=q:=⟨_,rfl⟩;have JH:q<=s.size:=by rw[<-hq,<-(Xo1 H)];exact Q3a (by have:=(Xo1 H);have:=h1.2.2;omega)
  obtain ⟨c,hc⟩:∃c,Q07 L q=c:=⟨_,rfl⟩;have E6:X=if c=94 then
   (if 48<=(Q07 L (Q05 L (q+1))).toNat/\(Q07 L (Q05 L (q+1))).toNat<=56 then .ok (.pow x ((Q07 L (Q05 L (q+1))).toNat-48),Q05 L (q+1)+1) else .error (Q05 L (q+1)))
   else .ok (x,q):=by
   have h:=(Xo4 H);unfold Qdq at h;simp only[hq,hc] at h;exact h.symm
  have D3:=Q3m h1.2.1 h1.2.2 (Xo2 H);rw[(Xo0 H)] at D3;simp only[skS,nxB,Th,Xac,hq,hc] at D3;have G4:IntKind.i64.wrap ((q:Int)+1)=(q:Int)+1:=by rw[UN];have:=(Xo2 H);omega
  by_cases h94:c=94
  ·subst h94;have n94:((((94:UInt8).toNat:Nat):Int) != 94)=false:=(by decide);obtain ⟨q2,F6⟩:∃q2,Q05 L (q+1)=q2:=⟨_,rfl⟩;have hq1s:q+1<=s.size:=(by have:=Q0k hc (by decide);have:=(Xo1 H);omega);have hq2s:q2<=s.size:=(by rw[<-F6,<-(Xo1 H)];exact Q3a (by have:=(Xo1 H);omega));have X5:=fun W (hW:Q0q W R s ((q+1:Nat):Int) (most:Int) d false)=>Q3m hW hq1s (Xo2 H);rw[(Xo0 H)] at X5;simp only[skS,Th,Xac,F6] at X5;rw[Us rfl,F6] at E6;have H2:=Xh5 D3 h1.1 X5 hq2s E6;clear D3 h1 X5 F6 hq1s hq2s E6 hq hc JH
   go_upto_region 4 with (go_at_call_of 131 (Value.pointer (some ⟨R,0,none⟩));refine (Xo0 H2).mono ?_;rintro r w2 ⟨rfl,X0,M1⟩;have k1:=X0.c1;have g1:=X0.f1;have H3:=Xh2 (X0.setAt ((q:Int)+1)) (M1.trans0 (Q1x w2 R 1 (.int .i64 ((q:Int)+1))));clear X0 M1)
   go_upto_region 6 with (go_at_call_of 131 (Value.pointer (some ⟨R,0,none⟩));refine ((Xo2 H2) _ (show Q0q _ R s (((q+1:Nat)):Int) (most:Int) d false from (Xo0 H3))).mono ?_;rintro r w3 ⟨rfl,m7,Z5⟩;have H4:=Xh2 m7 ((Xe1 H3).trans0 Z5);clear m7 Z5)
   go_wp2_with (go_at_call_of 274 (Value.pointer (some ⟨R,0,none⟩));refine (Qfs (Xo0 H4) (Xo3 H2) (Xo2 H) 0 8 (by decide)).mono ?_;rintro r w4 ⟨Q7,I9⟩;obtain ⟨z,hz⟩:∃z:Int,r=.returned (.int .i64 z):=by { rcases Q7 with ⟨_,_,_,h,_⟩|⟨_,h,_⟩ <;> exact ⟨_,h⟩ };subst hz;have H5:=Xh2 Q7 ((Xe1 H4).trans0 I9);clear Q7 I9)
   go_ret;obtain ⟨Q7,ht⟩:=H5.out;rw[(Xo0 H)] at Q7;have hxw:=Qja (Xo1 H2) ht (Xe5 H);have KK:=(Xo0 H1).trans0 ht;rcases Q7 with ⟨_,h1,h2,h3,h4⟩|⟨h1,h3,h4⟩
   ·injection h3 with h3;injection h3 with _ h3;subst h3;rw[(Xe4 H2),Us ⟨by omega,by omega⟩];refine Q6w.okd KK ?_ h4 ?_
    ·rw[Q2w];refine ⟨_,congrArg (fun z=>Value.iface _ (.agg #[_,.int .i64 z])) (by omega),hxw⟩
    ·have h5:Q07 L q2≠0:=fun e=>by rw[e] at h1;exact absurd h1 (by decide)
     have:=Q6a h5;have:=(Xo1 H);omega
   ·rw[(Xe4 H2),Up (fun h=>h1 ⟨trivial,by omega,by omega⟩)];exact Q6w.err KK h4 (Xo3 H2)
  ·have n93:((c.toNat:Int)==94)=false:=Qdp (k:=94) (by decide) h94;have n94:((c.toNat:Int) != 94)=true:=(by rw[bne,n93];rfl);rw[Up h94] at E6;have H2:=Xh4 D3 h1.1 E6 JH;clear D3 h1 E6 JH hq hc h94
   go_wp2_with (go_at_call_of 131 (Value.pointer (some ⟨R,0,none⟩));refine (Xo0 H2).mono ?_;rintro r w2 ⟨rfl,X0,M1⟩;have H3:=Xh2 X0 M1;clear X0 M1)
   go_ret;rw[(Xo2 H2)];exact Q6w.okd ((Xo0 H1).trans0 (Xe1 H3)) (Qja (Xo1 H2) (Xe1 H3) (Xe5 H)) (Xo0 H3) (Xe3 H2)
end Go.Proofs.YtidojbkhlenahaaGreatDoor
