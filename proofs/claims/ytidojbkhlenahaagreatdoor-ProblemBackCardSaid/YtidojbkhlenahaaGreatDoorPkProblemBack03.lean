/- Part 3. No condition. -/
import Derived.Shelf.Spec.TrailingZeros
import Derived.Ground.Names7Prog
import Derived.Lib.ItoaNum
import Derived.Deep.LoopGhost
import Derived.Deep.RegionHeldLaw
import Derived.Deep.DrawnRows
import Derived.Test.YtidojbkhlenahaaGreatDoorPkProblemBack02
set_option maxRecDepth 100000
set_option maxHeartbeats 16000000
namespace Go.Proofs.YtidojbkhlenahaaGreatDoor
open Go.RowKit WordsM
theorem Arr.drew {T:TypeId} {K:IntKind} {w:World} {g:Nat} {ls:LN} (h:Arr T K w g ls):Arr T K w.drew g ls:=h
theorem Ql1 (a:OA) (n c:Nat) (ls:LN) (z:Nat) (w:World) (h:WordsIn w a n c ls) (hn:n<=100000) (hz:z<=100000000):
 Calls Tryz.prog 218 #[.slice a n c,.int .i64 (z:Int)] w (Qn8 w (val (2^64) ls / 2^z)):=by
 have hc:=Q19 a n c ls w h;have hT:=fun W (hb:Bw w W)=>(h.step hb).trim;have hv:val (2^64) (trimL ls)=val (2^64) ls:=Q1b ls;have G3:=h.len;have P6:=trim_len ls;obtain ⟨A,hA⟩:∃A,trimL ls=A:=⟨_,rfl⟩;rw[hA] at hc hT hv P6;rw[<-hv];obtain ⟨k,hk⟩:∃k,z / 64=k:=⟨_,rfl⟩;obtain ⟨s,hs⟩:∃s,z%64=s:=⟨_,rfl⟩;have WL:s<64:=by omega
 have KQ:z=64*k+s:=by omega
 have XI:(z:Int).tdiv 64=(k:Int):=by rw[Int.tdiv_eq_ediv_of_nonneg (by omega)];omega
 have hsI:(z:Int).tmod 64=(s:Int):=by rw[Int.tmod_eq_emod_of_nonneg (by omega)];omega
 have hkI2:(z:Int) / 64=(k:Int):=by omega
 have Ym:(z:Int)%64=(s:Int):=by omega
 have HA:=Ub (hT w (Ug _ _)).low;have HC:=Xh2 hc hT;have HZ:=Ub KQ;clear hc hT hA hv h hk hs KQ
 by_cases Vr:A.length<=k
 ·have Zc:(A.length:Int)<=(k:Int):=by omega
  have E9:=Qve (s:=s) HA.out Vr;rw[<-HZ.out] at E9;rw[E9];clear E9
  go_enter Tryz.func218,Tryz.ntmps218
  go_wp2_with (refine (Xo0 HC).mono ?_;rintro e w1 ⟨rfl,C0⟩;have K0:=Ub C0;clear C0)
  go_ret;exact ⟨none,0,0,rfl,⟨⟨rfl,Ue _,Ut _,fun x hx=>by simp[Q0z] at hx,.inl rfl⟩,.inr fun _ h=>nomatch h⟩,K0.out⟩
 ·obtain ⟨m,hm⟩:∃m,A.length=k+m:=⟨A.length-k,by omega⟩;have Zc:¬((A.length:Int)<=(k:Int)):=by omega
  have hmI:(A.length:Int)-(k:Int)=(m:Int):=by omega
  have C4:=Xa8 (P:=Tryz.prog) 24 83 (.int .u64 0) 8 Tryz.underlying24 Q4x rfl .i64 .i64 m (by omega) (by omega);rw[Q22] at C4;have HM:=Ub hm;clear hm
  go_enter Tryz.func218,Tryz.ntmps218
  go_wp2_with (refine (Xo0 HC).mono ?_;rintro e w1 ⟨rfl,C0⟩;have K0:=Ub C0;clear C0)
  have Z2:Bw w1 (w1.alloc (.cells (Array.replicate m (nv .u64 0)) 83)):=Ba;have C9:=Arr.zeros w1 83 .u64 m;have HW:=Ub ((Xe1 HC) w1 K0.out);have H0:=Xh2 Z2 C9;clear Z2 C9 C4 HC
  go_loopw [26] (fun iv wr=>∃(i:Nat) (L:LN),iv=.int .i64 (i:Int)/\i<=m/\Arr 83 .u64 wr w1.heap.size L/\L.length=m/\(∀j,j<i->L[j]?=(shr s (64-s) (A.drop k))[j]?)/\Bw w1 wr) (fun iv _=>m-(intOf iv).toNat)
  case atStart=>exact ⟨0,List.replicate m 0,rfl,Ut _,(Xe1 H0),by simp,fun j hj=>absurd hj (TV _),(Xo0 H0)⟩
  case round=>
   obtain ⟨i,L,rfl,hi,hL,o4,M4,O0⟩:=hrel
   by_cases E0:i<m
   ·have J0:(i:Int)<(m:Int):=(by omega);obtain ⟨x,hx⟩:∃x,A[i+k]?=some x:=⟨_,Ua (by have:=HM.out;omega)⟩;have D4:x<18446744073709551616:=HA.out x (Uf hx);obtain ⟨ba,oa,U5,J1,u5⟩:=(HW.out.rd.below O0).at_ hx;subst U5;have hr:=Qkz s (64-s) (A.drop k) i x (by rw[Xau,Xbf];exact hx);rw[Xau,show s+(64-s)=64 by omega] at hr;obtain ⟨p,hp⟩:∃p,x / 2^s=p:=⟨_,rfl⟩;have Yy:(x:Int) / 2^s=(p:Int):=(by rw[<-hp];norm_cast);have R7:p<18446744073709551616:=(by rw[<-hp];exact TS (Xbt _ _) D4);obtain ⟨q,hq⟩:∃q,L[i]?=some q:=⟨_,Ua (by omega)⟩;have YV:wr.cell? ⟨w1.heap.size,i,none⟩=some (.int .u64 (q:Int)):=hL.cell hq;have YN:wr.frozen? ⟨w1.heap.size,i,none⟩=false:=hL.frozen _;obtain ⟨t,ht⟩:∃t,64-s=t:=⟨_,rfl⟩;have htI:(64:Int)-(s:Int)=(t:Int):=(by omega);have HH:=Xh5 hr hp hL M4 O0;clear hr hp hL M4 O0 hx hq
    by_cases hik:i+k+1<A.length
    ·have hik':(i:Int)+(k:Int)+1<(A.length:Int):=(by omega);obtain ⟨y,hy⟩:∃y,A[i+k+1]?=some y:=⟨_,Ua hik⟩;have K9:=(HW.out.rd.below (Xe4 HH)).at_ hy;obtain ⟨bb,ob,t6,E4,K9⟩:=K9;injection t6 with t6;injection t6 with C0 D0;subst C0 D0;have Qo:y<18446744073709551616:=HA.out y (Uf hy);have HY:=Ub hy;clear hy
     go_wp2_with fail
     have Vc:=(Xo2 HH).set i p;have D0:=(Xe4 HH).setCell (p:=⟨w1.heap.size,i,none⟩) (Ue _) (.int .u64 (p:Int));have hcy2:(wr.setCell ⟨w1.heap.size,i,none⟩ (.int .u64 (p:Int))).cell? ⟨ba,oa+(i+k+1),none⟩=some (.int .u64 (y:Int)):=(UM (UZ _ _ _ _ (show ba≠w1.heap.size by omega))).trans K9;have hcp2:(wr.setCell ⟨w1.heap.size,i,none⟩ (.int .u64 (p:Int))).cell? ⟨w1.heap.size,i,none⟩=some (.int .u64 (p:Int)):=Vc.cell (by rw[TG (by omega)]);have A4:(wr.setCell ⟨w1.heap.size,i,none⟩ (.int .u64 (p:Int))).frozen? ⟨w1.heap.size,i,none⟩=false:=Vc.frozen _;generalize wr.setCell ⟨w1.heap.size,i,none⟩ (.int .u64 (p:Int))=W2 at*;obtain ⟨g,hg⟩:∃g,y*2^t%2^64=g:=⟨_,rfl⟩;have hgI:(y:Int)*2^t%18446744073709551616=(g:Int):=(by rw[<-hg,show (2:Nat)^64=18446744073709551616 from rfl,Int.natCast_emod,Int.natCast_mul,Int.natCast_pow];rfl);have Xw:g<18446744073709551616:=(by rw[<-hg];exact TK _ (by decide));obtain ⟨r,hr⟩:∃r,p+g=r:=⟨_,rfl⟩;have Q7:bits .or .u64 (p:Int) (g:Int)=(r:Int):=by
      rw[u64_or_nat p g R7 Xw,<-hr,<-(Xo1 HH),<-hg,<-ht];have:=J02 (s:=s) (t:=64-s) (x:=x) (y:=y) (by rw[show s+(64-s)=64 by omega];exact D4);rw[show s+(64-s)=64 by omega] at this;rw[this]
     have HS:=Xh4 hg hr Vc D0;clear hg hr Vc D0
     go_region
     go_wp2_with fail
     have X0:=(Xo0 HH);rw[(Xo1 HH),show k+(i+1)=i+k+1 by omega,HY.out,ht,Xao,(Xo0 HS),(Xo1 HS)] at X0;have S2:bits .or .u64 (p:Int) (IntKind.u64.wrap ((y:Int)*2^t))=(r:Int):=(by rw[IntKind.wrap_u64,hgI,Q7]);rw[S2];refine ⟨⟨i+1,(L.set i p).set i r,by simp,by omega,((Xo2 HS).set i r).drew,by simp[o4],?_,((Xe3 HS).setCell (p:=⟨w1.heap.size,i,none⟩) (Ue _) _).drew⟩,by simp only[intOf];omega⟩;rw[List.set_set];rw[<-ht] at X0;exact Qhn (Xo3 HH) X0 (by omega)
    ·have hik':¬((i:Int)+(k:Int)+1<(A.length:Int)):=by omega
     go_wp2_with fail
     have X0:=(Xo0 HH);rw[(Xo1 HH),show k+(i+1)=i+k+1 by omega,UU (show A.length<=i+k+1 by omega)] at X0;simp only[Option.getD_none,Xaa,Nat.zero_mod,Tz] at X0;exact ⟨⟨i+1,L.set i p,by simp,by omega,(Xo2 HH).set i p,by simp[o4],Qhn (Xo3 HH) X0 (by omega),(Xe4 HH).setCell (p:=⟨w1.heap.size,i,none⟩) (Ue _) _⟩,by simp only[intOf];omega⟩
   ·obtain rfl:i=m:=(by omega);have Y4:L=shr s (64-s) (A.drop k):=Qge (fun j hj=>M4 j (by rw[Qkx,Tg] at hj;have:=HM.out;omega)) (by rw[Qkx,Tg];have:=HM.out;omega);have hW:WordsIn wr (some ⟨w1.heap.size,0,none⟩) i i L:=⟨o4,Ue _,by omega,Y4 ▸ Qvd HA.out k s WL,hL.rd⟩;have J0:¬((i:Int)<(i:Int)):=(by omega);have X7:Bw w wr:=Below.next0 K0.out O0;have Z4:trimL L=dig (2^64) (val (2^64) A / 2^z):=(by rw[Q1l (by decide) hW.low,Y4,Qvc A HA.out k s (by omega) WL,HZ.out]);have HE:=Xh3 hW X7 Z4;clear hW X7 Z4 Y4 hL M4 O0
    go_wp2_with (refine (Q19 _ _ _ _ _ (Xo0 HE)).mono ?_;rintro e w5 ⟨rfl,Z0⟩;have S4:=Ub Z0;clear Z0)
    go_ret;have N3:=((Xo0 HE).step S4.out).trim;rw[(Xe2 HE)] at N3⊢;exact ⟨_,_,_,rfl,⟨N3,.inr fun x hx=>by injection hx with hx;subst hx;exact K0.out.size⟩,Below.next0 (Xo1 HE) S4.out⟩
end Go.Proofs.YtidojbkhlenahaaGreatDoor
namespace Go.Proofs
open Go.Shelf
def Tryz.J4b:Go.Shelf.Ren:=⟨fun|29=>255|n=>n,fun|22=>83|3=>3|4=>4|25=>149|54=>302|0=>0|5=>5|n=>n,fun|1=>5|n=>n⟩
theorem Tryz.J4c:Go.Proofs.Lays7.n29 Tryz.prog Tryz.J4b:=by repeat' first|kernel_rfl|(intros;kernel_rfl)|decide|constructor
open Go.RowKit in
theorem Tryz.J4d (x:Nat) (hx:x<18446744073709551616) (w:World) (hT:x≠0->TabAt 5 Lib.deBruijn64tab w):
 Calls Tryz.prog 255 #[.int .u64 x] w fun e w'=>e=.returned (.int .i64 (Lib.ctz 64 x))/\w'=w:=Any7.bits_TrailingZeros64 Tryz.J4c x hx w hT
end Go.Proofs
namespace Go.Proofs.YtidojbkhlenahaaGreatDoor
open Go.RowKit WordsM
theorem Qy3 {ls:LN} {i x k m:Nat} (h0:val (2^64) (ls.take i)=0) (hx:ls[i]?=some x) (he:x=2^k*(2*m+1)) (hk:k<64):Qn5 (val (2^64) ls) (64*i+k):=by
 have hi:i<ls.length:=(Ul.1 hx).1;have WK:ls[i]=x:=(Ul.1 hx).2;have h1:=Q3s (B:=2^64) ls i;rw[h0,UH,UG hi,WK] at h1;simp only[val] at h1;obtain ⟨V,hV⟩:∃V,val (2^64) (ls.drop (i+1))=V:=⟨_,rfl⟩;rw[hV] at h1;obtain ⟨t,ht⟩:∃t,64=k+(t+1):=⟨63-k,by omega⟩;have e1:x+2^64*V=2^k*(2*(m+2^t*V)+1):=by
  rw[he,show (2:Nat)^64=2^k*(2^t*2) by rw[<-Tf,<-Tp,<-ht],UL,<-Tv]
  congr 1
  rw[UC (2^t) 2,UL,Tv];omega
 rw[e1,<-TZ,<-UL,<-Tp] at h1;rw[h1];have hp:0<2^(64*i+k):=Tr (by decide);exact ⟨Nat.mul_mod_right _ _,by rw[Nat.mul_div_cancel_left _ hp];omega⟩
def Q1s (w:World):Prop:=5<w.heap.size/\TabAt 5 Lib.deBruijn64tab w
theorem Q1s.step {w w':World} (h:Q1s w) (hb:Bw w w'):Q1s w':=⟨Uc h.1 hb.size,fun j hj=>(hb.cell (p:=⟨_,j,none⟩) h.1).trans (h.2 j hj)⟩
theorem Qhq (a:OA) (n c:Nat) (ls:LN) (w:World) (h:WordsIn w a n c ls) (hT:Q1s w) (hn:n<=1000000) (h0:val (2^64) ls≠0):
 Calls Tryz.prog 222 #[.slice a n c] w fun e w'=>(∃z:Nat,e=.returned (.int .i64 (z:Int))/\Qn5 (val (2^64) ls) z/\z<64*n)/\Bw w w':=by
 have G3:=h.len;have H:=Xh3 h hT h0;clear h hT h0
 go_enter Tryz.func222,Tryz.ntmps222
 go_wp2_with fail
 go_loopw [7] (fun v wr=>∃i:Nat,v=.int .i64 (i:Int)/\i<=n/\val (2^64) (ls.take i)=0/\Bw w wr) (fun v _=>n-(intOf v).toNat)
 case atStart=>exact ⟨0,rfl,Ut _,by simp[val],Ug _ _⟩
 case round=>
  obtain ⟨i,rfl,hi,hv,hb⟩:=hrel
  by_cases E0:i<n
  ·have J0:(i:Int)<(n:Int):=(by omega);obtain ⟨x,hx⟩:∃x,ls[i]?=some x:=⟨_,Ua (by omega)⟩;have D4:x<18446744073709551616:=(Xo0 H).low x (Uf hx);obtain ⟨g1,o1,U5,R6,u5⟩:=((Xo0 H).rd.below hb).at_ hx;subst U5;have HH:=Xh3 hv hb hx;clear hv hb hx
   by_cases m5:x=0
   ·subst m5
    go_wp2_with fail
    refine ⟨⟨i+1,by simp,by omega,?_,(Xo1 HH)⟩,by simp only[intOf];omega⟩;rw[Q1c ls i 0 (Xe2 HH),(Xo0 HH),Nat.mul_zero]
   ·have hx0':((x:Int)==0)=false:=(by rw[Uk];omega);have hctz:=fun W (hb:Bw w W)=>(Tryz.J4d x D4 W (fun _=>((Xo1 H).step hb).2)).mono (R':=fun e w'=>e=.returned (.int .i64 (Lib.ctz 64 x))/\W=w') (by rintro e w' ⟨h1,h2⟩;exact ⟨h1,h2.symm⟩);obtain ⟨m,hm,hk⟩:=Lib.ctzFrom_spec 64 x (by omega) D4;have hce:Lib.ctz 64 x=Lib.ctzFrom 64 x:=(by unfold Lib.ctz;rw[Up m5]);rw[<-hce] at hm hk;obtain ⟨k,hkk⟩:∃k,Lib.ctz 64 x=k:=⟨_,rfl⟩;rw[hkk] at hm hk;rw[hkk] at hctz;have HZ:=Xh2 hm hctz;clear hctz hm hce hkk
    go_wp2_with (refine ((Xe1 HZ) _ (Xo1 HH)).mono ?_;rintro e w5 ⟨rfl,rfl⟩)
    go_ret;exact ⟨⟨64*i+k,rfl,Qy3 (Xo0 HH) (Xe2 HH) (Xo0 HZ) hk,by omega⟩,(Xo1 HH)⟩
  ·exact absurd (by rw[Uw (by omega)] at hv;exact hv) (Xe2 H)
end Go.Proofs.YtidojbkhlenahaaGreatDoor
namespace Go.Proofs.YtidojbkhlenahaaGreatDoor
open Go.RowKit
structure Q03 (w:World) (b:Nat) (v0 v1 v2:Value):Prop where
 c0:w.cell? ⟨b,0,none⟩=some v0
 c1:w.cell? ⟨b,1,none⟩=some v1
 c2:w.cell? ⟨b,2,none⟩=some v2
 f0:w.frozen? ⟨b,0,none⟩=false
 f1:w.frozen? ⟨b,1,none⟩=false
 f2:w.frozen? ⟨b,2,none⟩=false
theorem Q03.cc {w:World} {b:Nat} {v0 v1 v2:Value} (h:Q03 w b v0 v1 v2):w.cell? ⟨b,0,none⟩=some v0/\w.cell? ⟨b,1,none⟩=some v1/\w.cell? ⟨b,2,none⟩=some v2:=⟨h.c0,h.c1,h.c2⟩
theorem Q03.cf {w:World} {b:Nat} {v0 v1 v2:Value} (h:Q03 w b v0 v1 v2):w.cell? ⟨b,0,none⟩=some v0/\w.cell? ⟨b,1,none⟩=some v1/\w.cell? ⟨b,2,none⟩=some v2/\w.frozen? ⟨b,0,none⟩=false/\w.frozen? ⟨b,1,none⟩=false/\w.frozen? ⟨b,2,none⟩=false:=⟨h.c0,h.c1,h.c2,h.f0,h.f1,h.f2⟩
theorem Q03.new (w:World) (v0 v1 v2:Value) (T:TypeId):Q03 (w.alloc (.cells #[v0,v1,v2] T)) w.heap.size v0 v1 v2:=
 ⟨by rw[Uv _ _ _ _ _ _ (Um _ _)];rfl,by rw[Uv _ _ _ _ _ _ (Um _ _)];rfl,by rw[Uv _ _ _ _ _ _ (Um _ _)];rfl,
   TC _ _ _ _ _ (Um _ _),TC _ _ _ _ _ (Um _ _),TC _ _ _ _ _ (Um _ _)⟩
theorem Q0h (w:World) (o:Obj):w.heap.size<(w.alloc o).heap.size:=by rw[Ui];omega
theorem Q03.step {w w':World} {b B:Nat} {v0 v1 v2:Value} (h:Q03 w b v0 v1 v2) (hb:Below B w w') (hB:b<B):Q03 w' b v0 v1 v2:=
 ⟨(hb.cell (p:=⟨b,0,none⟩) hB).trans h.c0,(hb.cell (p:=⟨b,1,none⟩) hB).trans h.c1,(hb.cell (p:=⟨b,2,none⟩) hB).trans h.c2,(hb.frozen (p:=⟨b,0,none⟩) hB).trans h.f0,(hb.frozen (p:=⟨b,1,none⟩) hB).trans h.f1,(hb.frozen (p:=⟨b,2,none⟩) hB).trans h.f2⟩
theorem Q03.d1 {w:World} {b:Nat} {v0 v1 v2:Value} (h:Q03 w b v0 v1 v2) (u0:Value):(w.setCell ⟨b,0,none⟩ u0).cell? ⟨b,1,none⟩=some v1:=(Ud _ _ _ _ (by simp)).trans h.c1
theorem Q03.d2 {w:World} {b:Nat} {v0 v1 v2:Value} (h:Q03 w b v0 v1 v2) (u0 u1:Value):((w.setCell ⟨b,0,none⟩ u0).setCell ⟨b,1,none⟩ u1).cell? ⟨b,2,none⟩=some v2:=(Ud _ _ _ _ (by simp)).trans ((Ud _ _ _ _ (by simp)).trans h.c2)
theorem Q03.store {w:World} {b:Nat} {v0 v1 v2:Value} (h:Q03 w b v0 v1 v2) (u0 u1 u2:Value):Q03 (((w.setCell ⟨b,0,none⟩ u0).setCell ⟨b,1,none⟩ u1).setCell ⟨b,2,none⟩ u2) b u0 u1 u2:=
 ⟨(Ud _ _ _ _ (by simp)).trans ((Ud _ _ _ _ (by simp)).trans (UE _ _ _ (by rw[h.c0];rfl))),(Ud _ _ _ _ (by simp)).trans (UE _ _ _ (by rw[h.d1];rfl)),UE _ _ _ (by rw[h.d2];rfl),by simp[h.f0],by simp[h.f1],by simp[h.f2]⟩
theorem Q03.below {w w0:World} {b B:Nat} (hb:Below B w0 w) (hB:B<=b) (u0 u1 u2:Value):Below B w0 (((w.setCell ⟨b,0,none⟩ u0).setCell ⟨b,1,none⟩ u1).setCell ⟨b,2,none⟩ u2):=
 ((hb.setCell (p:=⟨b,0,none⟩) hB _).setCell (p:=⟨b,1,none⟩) hB _).setCell (p:=⟨b,2,none⟩) hB _
theorem RdI.store3 {K:IntKind} {w:World} {B b:Nat} {a:OA} {ls:LN} {v0 v1 v2:Value} (h:RdI K w B a ls) (hN:Q03 w b v0 v1 v2) (h0:∀x:Nat,v0≠nv K x) (h1:∀x:Nat,v1≠nv K x) (h2:∀x:Nat,v2≠nv K x) (u0 u1 u2:Value):
 RdI K (((w.setCell ⟨b,0,none⟩ u0).setCell ⟨b,1,none⟩ u1).setCell ⟨b,2,none⟩ u2) B a ls:=by
 rcases h with rfl|⟨g,o,rfl,hg,hc⟩
 ·exact .inl rfl
 ·refine .inr ⟨g,o,rfl,hg,fun j x hx=>?_⟩;have u5:=hc j x hx;have key:∀(i:Nat) (v:Value),w.cell? ⟨b,i,none⟩=some v->(∀x:Nat,v≠nv K x)->(⟨g,o+j,none⟩:Addr)≠⟨b,i,none⟩:=fun i v hv Q0 e=>by
   rw[e,hv] at u5;injection u5 with u5;exact Q0 x u5
  exact (Ud _ _ _ _ (key 2 v2 hN.c2 h2).symm).trans ((Ud _ _ _ _ (key 1 v1 hN.c1 h1).symm).trans ((Ud _ _ _ _ (key 0 v0 hN.c0 h0).symm).trans u5))
theorem Q1i (w:World) (b:Nat) (u0 u1 u2:Value):w.heap.size<=(((w.setCell ⟨b,0,none⟩ u0).setCell ⟨b,1,none⟩ u1).setCell ⟨b,2,none⟩ u2).heap.size:=(Q03.below (Ug b w) (Ue b) u0 u1 u2).size
theorem Q8g (w:World) (x0 x1 x2 r0 r1 r2:Value) (T1 T3:TypeId):
 ((w.alloc (.cells #[x0,x1,x2] T1)).alloc (.cells #[r0,r1,r2] T3)).heap.size=w.heap.size+2/\Q03 ((w.alloc (.cells #[x0,x1,x2] T1)).alloc (.cells #[r0,r1,r2] T3)) w.heap.size x0 x1 x2/\Q03 ((w.alloc (.cells #[x0,x1,x2] T1)).alloc (.cells #[r0,r1,r2] T3)) (w.heap.size+1) r0 r1 r2/\Bw w ((w.alloc (.cells #[x0,x1,x2] T1)).alloc (.cells #[r0,r1,r2] T3)):=by
 have A3:(w.alloc (.cells #[x0,x1,x2] T1)).heap.size=w.heap.size+1:=Ui _ _;have C0:Bw w (w.alloc (.cells #[x0,x1,x2] T1)):=Ba;have D0:Below (w.alloc (.cells #[x0,x1,x2] T1)).heap.size (w.alloc (.cells #[x0,x1,x2] T1)) ((w.alloc (.cells #[x0,x1,x2] T1)).alloc (.cells #[r0,r1,r2] T3)):=Ba;refine ⟨by rw[Ui,A3],(Q03.new w _ _ _ _).step D0 (Q0h _ _),?_,Below.next0 C0 D0⟩;have h:=Q03.new (w.alloc (.cells #[x0,x1,x2] T1)) r0 r1 r2 T3;rwa[A3] at h
theorem Qf3 (w:World) (x0 x1 x2 y0 y1 y2 r0 r1 r2:Value) (T1 T2 T3:TypeId):
 (((w.alloc (.cells #[x0,x1,x2] T1)).alloc (.cells #[y0,y1,y2] T2)).alloc (.cells #[r0,r1,r2] T3)).heap.size=w.heap.size+3/\Q03 (((w.alloc (.cells #[x0,x1,x2] T1)).alloc (.cells #[y0,y1,y2] T2)).alloc (.cells #[r0,r1,r2] T3)) w.heap.size x0 x1 x2/\Q03 (((w.alloc (.cells #[x0,x1,x2] T1)).alloc (.cells #[y0,y1,y2] T2)).alloc (.cells #[r0,r1,r2] T3)) (w.heap.size+1) y0 y1 y2/\
   Q03 (((w.alloc (.cells #[x0,x1,x2] T1)).alloc (.cells #[y0,y1,y2] T2)).alloc (.cells #[r0,r1,r2] T3)) (w.heap.size+2) r0 r1 r2/\Bw w (((w.alloc (.cells #[x0,x1,x2] T1)).alloc (.cells #[y0,y1,y2] T2)).alloc (.cells #[r0,r1,r2] T3)):=by
 obtain ⟨h1,h2,h3,h4⟩:=Q8g w x0 x1 x2 y0 y1 y2 T1 T2;generalize (w.alloc (.cells #[x0,x1,x2] T1)).alloc (.cells #[y0,y1,y2] T2)=W at*;have hb:Bw W (W.alloc (.cells #[r0,r1,r2] T3)):=Ba;have h:=Q03.new W r0 r1 r2 T3;rw[h1] at h;exact ⟨by rw[Ui,h1],h2.step hb (by omega),h3.step hb (by omega),h,Below.next0 h4 hb⟩
theorem Q7d {w0 w:World} {b B:Nat} {v0 v1 v2:Value} (h:Q03 w b v0 v1 v2) (hb:Below B w0 w) (hB:B<=b) (u0 u1 u2:Value):(((w.setCell ⟨b,0,none⟩ u0).setCell ⟨b,1,none⟩ u1).setCell ⟨b,2,none⟩ u2).cell? ⟨b,0,none⟩=some u0/\(((w.setCell ⟨b,0,none⟩ u0).setCell ⟨b,1,none⟩ u1).setCell ⟨b,2,none⟩ u2).cell? ⟨b,1,none⟩=some u1/\(((w.setCell ⟨b,0,none⟩ u0).setCell ⟨b,1,none⟩ u1).setCell ⟨b,2,none⟩ u2).cell? ⟨b,2,none⟩=some u2/\Below B w0 (((w.setCell ⟨b,0,none⟩ u0).setCell ⟨b,1,none⟩ u1).setCell ⟨b,2,none⟩ u2):=
 ⟨(h.store u0 u1 u2).c0,(h.store u0 u1 u2).c1,(h.store u0 u1 u2).c2,Q03.below hb hB u0 u1 u2⟩
open WordsM
def Q7e (neg:Bool) (v:Nat) (exp:Int) (neg':Bool) (exp':Int) (L:LN) (er:Int):Prop:=
 (v=0/\neg'=false/\exp'=0/\L=[]/\er=0)∨∃z:Nat,Qn5 v z/\
   (((65536<exp∨exp< -65536-(z:Int)∨¬Q0a neg (exp+z) (dig (2^64) (v / 2^z)))/\neg'=false/\exp'=0/\L=[]/\er=2)∨
    (exp<=65536/\-65536-(z:Int)<=exp/\Q0a neg (exp+z) (dig (2^64) (v / 2^z))/\neg'=neg/\exp'=exp+z/\L=dig (2^64) (v / 2^z)/\er=0))
theorem Q5a (neg:Bool) (a:OA) (n c:Nat) (ls:LN) (exp:Int) (w:World) (h:WordsIn w a n c ls) (hT:Q1s w) (hn:n<=100000) (he: -1000000000<=exp) (Q6:exp<=1000000000):
 Calls Tryz.prog 165 #[.bool neg,.slice a n c,.int .i64 exp] w fun e w'=>∃neg' exp' a' n' c' L er,e=.returned (.tuple #[.agg #[.bool neg',.int .i64 exp',.slice a' n' c'],.int .i64 er])/\Q7e neg (val (2^64) ls) exp neg' exp' L er/\Q2n w w' a' n' c' L/\Bw w w':=by
 have WF:=fun W (hb:Bw w W)=>Qn7 a n c ls W (h.step hb) (by omega);have Z2:∀o,Bw w (w.alloc o):=fun o=>Ba
 by_cases h0:val (2^64) ls=0
 ·have HB:=Xh2 WF h0;clear WF h0 h hT he Q6
  go_enter Tryz.func165,Tryz.ntmps165
  go_upto_if 12 with (go_at_call_of 145 a;refine ((Xo0 HB) _ (Z2 _)).mono ?_;rintro e w1 ⟨⟨k,rfl,hk⟩,C0⟩;obtain rfl:k=0:=hk.2 (Xe1 HB);have K0:=Ub C0;clear C0)
  have hx:=Qci w false 0 none 0 0 26;have hf:∀i,w1.frozen? ⟨w.heap.size,i,none⟩=false:=fun i=>(K0.out.frozen (p:=⟨w.heap.size,i,none⟩) hx.1).trans (TC _ _ _ _ _ (Um _ _));have N4:w1.cell? ⟨w.heap.size,0,none⟩=some (.bool false):=(K0.out.cell (p:=⟨w.heap.size,0,none⟩) hx.1).trans hx.2.1;have O1:w1.cell? ⟨w.heap.size,1,none⟩=some (.int .i64 0):=(K0.out.cell (p:=⟨w.heap.size,1,none⟩) hx.1).trans hx.2.2.1;have E1:w1.cell? ⟨w.heap.size,2,none⟩=some (.slice none 0 0):=(K0.out.cell (p:=⟨w.heap.size,2,none⟩) hx.1).trans hx.2.2.2;have m4:=hf 0;have Y3:=hf 1;have A4:=hf 2;have C3:(w1.setCell ⟨w.heap.size,0,none⟩ (.bool false)).cell? ⟨w.heap.size,1,none⟩=some (.int .i64 0):=(Ud _ _ _ _ (by simp)).trans O1;have V2:((w1.setCell ⟨w.heap.size,0,none⟩ (.bool false)).setCell ⟨w.heap.size,1,none⟩ (.int .i64 0)).cell? ⟨w.heap.size,2,none⟩=some (.slice none 0 0):=(Ud _ _ _ _ (by simp)).trans ((Ud _ _ _ _ (by simp)).trans E1);clear hf hx
  go_wp2_with fail
  have G0:Bw w (((w1.setCell ⟨w.heap.size,0,none⟩ (.bool false)).setCell ⟨w.heap.size,1,none⟩ (.int .i64 0)).setCell ⟨w.heap.size,2,none⟩ (.slice none 0 0)):=(((Below.next0 (Z2 _) K0.out).setCell (p:=⟨w.heap.size,0,none⟩) (Ue _) _).setCell (p:=⟨w.heap.size,1,none⟩) (Ue _) _).setCell (p:=⟨w.heap.size,2,none⟩) (Ue _) _;have k0:(((w1.setCell ⟨w.heap.size,0,none⟩ (.bool false)).setCell ⟨w.heap.size,1,none⟩ (.int .i64 0)).setCell ⟨w.heap.size,2,none⟩ (.slice none 0 0)).cell? ⟨w.heap.size,0,none⟩=some (.bool false):=(Ud _ _ _ _ (by simp)).trans ((Ud _ _ _ _ (by simp)).trans (UE _ _ _ (by rw[N4];rfl)));have k1:(((w1.setCell ⟨w.heap.size,0,none⟩ (.bool false)).setCell ⟨w.heap.size,1,none⟩ (.int .i64 0)).setCell ⟨w.heap.size,2,none⟩ (.slice none 0 0)).cell? ⟨w.heap.size,1,none⟩=some (.int .i64 0):=(Ud _ _ _ _ (by simp)).trans (UE _ _ _ (by rw[C3];rfl));have k2:(((w1.setCell ⟨w.heap.size,0,none⟩ (.bool false)).setCell ⟨w.heap.size,1,none⟩ (.int .i64 0)).setCell ⟨w.heap.size,2,none⟩ (.slice none 0 0)).cell? ⟨w.heap.size,2,none⟩=some (.slice none 0 0):=UE _ _ _ (by rw[V2];rfl);generalize (((w1.setCell ⟨w.heap.size,0,none⟩ (.bool false)).setCell ⟨w.heap.size,1,none⟩ (.int .i64 0)).setCell ⟨w.heap.size,2,none⟩ (.slice none 0 0))=W3 at*;refine ⟨rfl,.tuple #[.agg #[.bool false,.int .i64 0,.slice none 0 0],.int .i64 0],by simp[results,go_sem,k0,k1,k2],false,0,none,0,0,[],0,rfl,.inl ⟨(Xe1 HB),rfl,rfl,rfl,rfl⟩,Q2n.nil_ _ _,G0⟩
 ·have hzr:=fun W (hb:Bw w W)=>Qhq a n c ls W (h.step hb) (hT.step hb) (by omega) h0;have hdn:=fun W (hb:Bw w W) z hz=>Ql1 a n c ls z W (h.step hb) hn hz;have HB:=Xh4 WF hzr hdn h0;clear WF hzr hdn h0 h hT
  by_cases R4:65536<exp
  ·go_enter Tryz.func165,Tryz.ntmps165
   go_upto_if 12 with (go_at_call_of 145 a;refine ((Xo0 HB) _ (Z2 _)).mono ?_;rintro e w1 ⟨⟨k,rfl,hk⟩,C0⟩;have JZ:((k:Int)==0)=false:=by { rw[Uk];intro e;exact (Xe3 HB) (hk.1 (by omega)) };have K0:=Ub C0;clear C0 hk)
   go_upto_if 23 with (go_at_call_of 222 a;refine ((Xo1 HB) _ (Below.next0 (Z2 _) K0.out)).mono ?_;rintro e w2 ⟨⟨z,rfl,hz,m8⟩,D0⟩;have F1:=Xh3 hz m8 D0;clear D0 hz m8)
   have I3:=(Qci w false 0 none 0 0 26).1;have hN:=((Q03.new w (.bool false) (.int .i64 0) (.slice none 0 0) 26).step K0.out I3).step (Xe2 F1) (Uc I3 K0.out.size);have O0:Bw w w2:=Below.next0 (Below.next0 (Z2 _) K0.out) (Xe2 F1);have hS:=hN.store (.bool false) (.int .i64 0) (.slice none 0 0);have hL:=Q03.below O0 (Ue _) (.bool false) (.int .i64 0) (.slice none 0 0);have HS:=Xh2 hS hL;obtain ⟨N4,O1,E1,m4,Y3,A4⟩:=hN.cf;have C3:=hN.d1 (.bool false);have V2:=hN.d2 (.bool false) (.int .i64 0);clear hN O0 hS hL I3
   go_wp2_with fail
   have k0:=(Xo0 HS).c0;have k1:=(Xo0 HS).c1;have k2:=(Xo0 HS).c2;have G0:=(Xe1 HS);clear HS C3 V2;generalize (((w2.setCell ⟨w.heap.size,0,none⟩ (.bool false)).setCell ⟨w.heap.size,1,none⟩ (.int .i64 0)).setCell ⟨w.heap.size,2,none⟩ (.slice none 0 0))=W3 at*;refine ⟨rfl,.tuple #[.agg #[.bool false,.int .i64 0,.slice none 0 0],.int .i64 2],by simp[results,go_sem,k0,k1,k2],false,0,none,0,0,[],2,rfl,.inr ⟨z,(Xo0 F1),.inl ⟨.inl R4,rfl,rfl,rfl,rfl⟩⟩,Q2n.nil_ _ _,G0⟩
  ·go_enter Tryz.func165,Tryz.ntmps165
   go_upto_if 12 with (go_at_call_of 145 a;refine ((Xo0 HB) _ (Z2 _)).mono ?_;rintro e w1 ⟨⟨k,rfl,hk⟩,C0⟩;have JZ:((k:Int)==0)=false:=by { rw[Uk];intro e;exact (Xe3 HB) (hk.1 (by omega)) };have K0:=Ub C0;clear C0 hk)
   go_upto_if 23 with (go_at_call_of 222 a;refine ((Xo1 HB) _ (Below.next0 (Z2 _) K0.out)).mono ?_;rintro e w2 ⟨⟨z,rfl,hz,m8⟩,D0⟩;have F1:=Xh3 hz m8 D0;clear D0 hz m8)
   obtain ⟨y,hy⟩:∃y:Int,-65536-(z:Int)=y:=⟨_,rfl⟩;have YL:wrap64 (-65536-(z:Int))=y:=(by have:=(Xo1 F1);rw[<-hy];unfold wrap64;omega);have HY:=Ub hy;clear hy
   by_cases Z3:exp<y
   ·have hx1':exp<=65536:=(by omega);have I3:=(Qci w false 0 none 0 0 26).1;have hN:=((Q03.new w (.bool false) (.int .i64 0) (.slice none 0 0) 26).step K0.out I3).step (Xe2 F1) (Uc I3 K0.out.size);have O0:Bw w w2:=Below.next0 (Below.next0 (Z2 _) K0.out) (Xe2 F1);have hS:=hN.store (.bool false) (.int .i64 0) (.slice none 0 0);have hL:=Q03.below O0 (Ue _) (.bool false) (.int .i64 0) (.slice none 0 0);have HS:=Xh2 hS hL;obtain ⟨N4,O1,E1,m4,Y3,A4⟩:=hN.cf;have C3:=hN.d1 (.bool false);have V2:=hN.d2 (.bool false) (.int .i64 0);clear hN O0 hS hL I3
    go_wp2_with fail
    have k0:=(Xo0 HS).c0;have k1:=(Xo0 HS).c1;have k2:=(Xo0 HS).c2;have G0:=(Xe1 HS);clear HS C3 V2 YL hx1';generalize (((w2.setCell ⟨w.heap.size,0,none⟩ (.bool false)).setCell ⟨w.heap.size,1,none⟩ (.int .i64 0)).setCell ⟨w.heap.size,2,none⟩ (.slice none 0 0))=W3 at k0 k1 k2 G0⊢;refine ⟨rfl,.tuple #[.agg #[.bool false,.int .i64 0,.slice none 0 0],.int .i64 2],by simp[results,go_sem,k0,k1,k2],false,0,none,0,0,[],2,rfl,.inr ⟨z,(Xo0 F1),.inl ⟨.inr (.inl (by rw[HY.out];exact Z3)),rfl,rfl,rfl,rfl⟩⟩,Q2n.nil_ _ _,G0⟩
   ·have hx2':y<=exp:=(by omega);have m8:(z:Nat)<=100000000:=(by have:=(Xo1 F1);omega);have O0:Bw w w2:=Below.next0 (Below.next0 (Z2 _) K0.out) (Xe2 F1);have HDN:=Xh2 ((Xo2 HB) w2 O0 z m8) O0;clear O0 m8;have I3:=Q0h w (.cells #[.bool false,.int .i64 0,.slice none 0 0] 26);have hN:=((Q03.new w (.bool false) (.int .i64 0) (.slice none 0 0) 26).step K0.out I3).step (Xe2 F1) (Uc I3 K0.out.size);have HN:=Xh2 hN (Uc (Uc I3 K0.out.size) (Xe2 F1).size);clear hN I3;have he3: -9223372036854775808<=exp+(z:Int):=(by omega);have he4:exp+(z:Int)<=9223372036854775807:=by have:=(Xo1 F1);omega
    by_cases Z1:Q0a neg (exp+(z:Int)) (dig (2^64) (val (2^64) ls / 2^z))
    ·have G7:=UQ Z1;have HNU:=Ub Z1;clear Z1
     go_wp2_with (first
      |(go_at_call_of 218 a;refine (Xo0 HDN).mono ?_;rintro e w3 ⟨a',n',c',rfl,hW,G0⟩;have Vb:=Ub (hW.lower (Xe1 HDN).size).new;have E3:=Xh2 hW.toWordsIn G0;clear hW G0)
      |(refine (Q11 neg (exp+(z:Int)) a' n' c' _ _ ((Xo0 E3).step (Ba)) he3 he4 (by have:=(Xo0 E3).cap;have:=(Xo0 E3).most;omega)).mono ?_;rintro r w4 ⟨hr,F2⟩;rw[G7] at hr;subst hr;
        have VD:=(Below.next0 (Below.next0 (Xe1 E3) ((Ug _ _).alloc (Ue _) (.cells #[.bool neg,.int .i64 (exp+(z:Int)),.slice a' n' c'] 26))) F2);have Qi:=(Xo0 HN).step VD (Xe1 HN);have JG:=(Q03.new w3 (.bool neg) (.int .i64 (exp+(z:Int))) (.slice a' n' c') 26).step F2 (Q0h _ _);obtain ⟨N4,O1,E1,m4,Y3,A4⟩:=Qi.cf;have C3:=Qi.d1 (.bool neg);have V2:=Qi.d2 (.bool neg) (.int .i64 (exp+(z:Int)));obtain ⟨y8,R6,J5⟩:=JG.cc;have M5:=Xh3 Qi (Below.next0 (Xe1 HDN) VD) (((Xo0 E3).step ((Ug _ _).alloc (Ue _) (.cells #[.bool neg,.int .i64 (exp+(z:Int)),.slice a' n' c'] 26))).step F2);clear Qi JG VD F2))
     have hS:=(Xo0 M5).store (.bool neg) (.int .i64 (exp+(z:Int))) (.slice a' n' c');obtain ⟨k0,k1,k2⟩:=hS.cc;have Z0:=Q03.below (Xo1 M5) (Ue _) (.bool neg) (.int .i64 (exp+(z:Int))) (.slice a' n' c');have N7:WordsIn _ a' n' c' (dig (2^64) (val (2^64) ls / 2^z)):=⟨(Xe2 M5).len,(Xe2 M5).cap,(Xe2 M5).most,(Xe2 M5).low,((Xe2 M5).rd.store3 (Xo0 M5) (fun _=>by simp[nv]) (fun _=>by simp[nv]) (fun _=>by simp[nv]) (.bool neg) (.int .i64 (exp+(z:Int))) (.slice a' n' c')).more (Q1i _ _ _ _ _)⟩;clear hS N4 O1 E1 m4 Y3 A4 C3 V2 y8 R6 J5 YL;generalize World.setCell _ _ _=W5 at k0 k1 k2 Z0 N7⊢;refine ⟨rfl,.tuple #[.agg #[.bool neg,.int .i64 (exp+(z:Int)),.slice a' n' c'],.int .i64 0],by simp[results,go_sem,k0,k1,k2],neg,exp+(z:Int),a',n',c',_,0,rfl,.inr ⟨z,(Xo0 F1),.inr ⟨R4,by rw[HY.out];exact hx2',HNU.out,rfl,rfl,rfl,rfl⟩⟩,⟨N7,Vb.out⟩,Z0⟩
    ·have G7:=Ta Z1;have HNU:=Ub Z1;clear Z1
     go_wp2_with (first
      |(go_at_call_of 218 a;refine (Xo0 HDN).mono ?_;rintro e w3 ⟨a',n',c',rfl,hW,G0⟩;have Vb:=Ub (hW.lower (Xe1 HDN).size).new;have E3:=Xh2 hW.toWordsIn G0;clear hW G0)
      |(refine (Q11 neg (exp+(z:Int)) a' n' c' _ _ ((Xo0 E3).step (Ba)) he3 he4 (by have:=(Xo0 E3).cap;have:=(Xo0 E3).most;omega)).mono ?_;rintro r w4 ⟨hr,F2⟩;rw[G7] at hr;subst hr;
        have VD:=(Below.next0 (Below.next0 (Xe1 E3) ((Ug _ _).alloc (Ue _) (.cells #[.bool neg,.int .i64 (exp+(z:Int)),.slice a' n' c'] 26))) F2);have Qi:=(Xo0 HN).step VD (Xe1 HN);have JG:=(Q03.new w3 (.bool neg) (.int .i64 (exp+(z:Int))) (.slice a' n' c') 26).step F2 (Q0h _ _);obtain ⟨N4,O1,E1,m4,Y3,A4⟩:=Qi.cf;have C3:=Qi.d1 (.bool false);have V2:=Qi.d2 (.bool false) (.int .i64 0);obtain ⟨y8,R6,J5⟩:=JG.cc;have M5:=Xh3 Qi (Below.next0 (Xe1 HDN) VD) (((Xo0 E3).step ((Ug _ _).alloc (Ue _) (.cells #[.bool neg,.int .i64 (exp+(z:Int)),.slice a' n' c'] 26))).step F2);clear Qi JG VD F2))
     have hS:=(Xo0 M5).store (.bool false) (.int .i64 0) (.slice none 0 0);obtain ⟨k0,k1,k2⟩:=hS.cc;have Z0:=Q03.below (Xo1 M5) (Ue _) (.bool false) (.int .i64 0) (.slice none 0 0);have N7:WordsIn _ a' n' c' (dig (2^64) (val (2^64) ls / 2^z)):=⟨(Xe2 M5).len,(Xe2 M5).cap,(Xe2 M5).most,(Xe2 M5).low,((Xe2 M5).rd.store3 (Xo0 M5) (fun _=>by simp[nv]) (fun _=>by simp[nv]) (fun _=>by simp[nv]) (.bool false) (.int .i64 0) (.slice none 0 0)).more (Q1i _ _ _ _ _)⟩;clear hS N4 O1 E1 m4 Y3 A4 C3 V2 y8 R6 J5 YL;generalize World.setCell _ _ _=W5 at k0 k1 k2 Z0 N7⊢;refine ⟨rfl,.tuple #[.agg #[.bool false,.int .i64 0,.slice none 0 0],.int .i64 2],by simp[results,go_sem,k0,k1,k2],false,0,none,0,0,[],2,rfl,.inr ⟨z,(Xo0 F1),.inl ⟨.inr (.inr HNU.out),rfl,rfl,rfl,rfl⟩⟩,Q2n.nil_ _ _,Z0⟩
end Go.Proofs.YtidojbkhlenahaaGreatDoor
namespace Go.Proofs.YtidojbkhlenahaaGreatDoor
namespace NatM
abbrev Q5r:Nat:=4294967296
def val:LN->Nat
 |[]=>0
 |m::r=>m+Q5r*val r
def trimL:LN->LN
 |[]=>[]
 |m::r=>match trimL r with
  |[]=>if m=0 then [] else [m]
  |x::y=>m::x::y
def Q62 (l:LN):Prop:=∀m∈l,m<Q5r
theorem Q1b:∀l:LN,val (trimL l)=val l
 |[]=>rfl
 |m::r=>by
  have ih:=Q1b r;simp only[trimL,val]
  split
  ·rename_i h;rw[h] at ih
   split
   ·rename_i h0;rw[h0,<-ih];rfl
   ·rw[<-ih];rfl
  ·rename_i x y h;rw[h] at ih;simp only[val] at ih⊢;rw[ih]
theorem trim_snoc_zero:∀l:LN,trimL (l++[0])=trimL l
 |[]=>rfl
 |m::r=>by
  have ih:=trim_snoc_zero r;simp only[Tt,trimL,ih]
theorem trim_snoc (m:Nat) (hm:m≠0):∀l:LN,trimL (l++[m])=l++[m]
 |[]=>by simp[trimL,hm]
 |x::r=>by
  have ih:=trim_snoc m hm r;simp only[Tt,trimL,ih];cases h:r++[m] with
  |nil=>simp at h
  |cons a b=>rfl
theorem Q4f (l:LN):trimL l=l.take (trimL l).length:=by
 induction l with
 |nil=>rfl
 |cons m r ih=>
  simp only[trimL];cases h:trimL r with
  |nil=>
   simp only
   split <;> simp
  |cons x y=>
   simp only;rw[h] at ih;rw[Ur,List.take_succ_cons,<-ih]
theorem trim_len (l:LN):(trimL l).length<=l.length:=by
 rw[Q4f];exact List.length_take_le' _ _
def Qov:LN->LN × Nat
 |[]=>([],0)
 |m::r=>(((Qov r).2*Q5r+m) / 10::(Qov r).1,((Qov r).2*Q5r+m)%10)
theorem Qow:∀l:LN,(Qov l).2<10
 |[]=>by decide
 |m::r=>TK _ (by decide)
theorem Ql2:∀{l:LN},Q62 l->Q62 (Qov l).1
 |[],_=>fun m hm=>by cases hm
 |m::r,h=>by
  have ih:=Ql2 (l:=r) fun x hx=>h x (by simp[hx]);have h1:m<4294967296:=h m (by simp);have h2:=Qow r;intro x hx;rcases Uy.1 hx with rfl|hx
  ·show ((Qov r).2*4294967296+m) / 10<4294967296
   omega
  ·exact ih x hx
def halves (ws:LN):LN:=ws.flatMap fun w=>[w%Q5r,w / Q5r]
theorem halves_small {ws:LN} (h:∀w∈ws,w<18446744073709551616):Q62 (halves ws):=by
 intro m hm;obtain ⟨w,hw,hm⟩:=List.mem_flatMap.1 hm;have:=h w hw
 show m<4294967296
 rcases Uy.1 hm with rfl|hm
 ·exact TK _ (by decide)
 ·rw[Ux] at hm;subst hm
  show w / 4294967296<_
  omega
theorem halves_len (ws:LN):(halves ws).length=2*ws.length:=by
 induction ws with
 |nil=>rfl
 |cons w r ih=>simp only[halves,List.flatMap_cons,Uh,Ur,TW] at ih⊢;omega
theorem Q2z:∀{l:LN},Q62 l->val l<Q5r^l.length
 |[],_=>by simp[val]
 |m::r,h=>by
  have ih:=Q2z (l:=r) fun x hx=>h x (by simp[hx]);have h1:m<4294967296:=h m (by simp);simp only[val,Ur,Tf];rw[UC (Q5r^r.length)];have h2:Q5r*(val r+1)<=Q5r*Q5r^r.length:=Xad _ ih;rw[Tv] at h2
  show m+4294967296*val r<_
  have h3:Q5r*val r+Q5r*1=4294967296*val r+4294967296:=rfl;omega
theorem dec_len (j:Nat):∀n,n<10^j->1<=j->(Lib.decDigits n).length<=j:=by
 induction j with
 |zero=>intro n _ h;omega
 |succ j ih=>
  intro n hn _;rw[Lib.decDigits]
  split
  ·simp
  ·have hj:1<=j:=by
    rcases Xa7 j with rfl|h
    ·simp at hn;omega
    ·exact h
   have:=ih (n / 10) (by rw[Tf] at hn;omega) hj;simp only[Uh,Xar];omega
theorem dec_val_len {l:LN} (h:Q62 l):(Lib.decDigits (val l)).length<=10*l.length+1:=by
 refine dec_len _ _ ?_ (by omega);refine Uc (Q2z h) ?_;rw[Tf,TZ];refine Un (Xbn (show Q5r<=10^10 by decide) _) ?_;omega
end NatM
open Go.RowKit NatM
abbrev nv3 (k:IntKind) (m:Nat):Value:=.int k (m:Int)
def RdN (k:IntKind) (w:World) (B:Nat) (a:OA) (ms:LN):Prop:=ms=[]∨∃b o,a=some ⟨b,o,none⟩/\b<B/\∀(j:Nat) m,ms[j]?=some m->w.cell? ⟨b,o+j,none⟩=some (nv3 k m)
section
variable {k:IntKind} {w w':World} {B B':Nat} {a:OA} {ms:LN}
theorem RdN.at_ (h:RdN k w B a ms) {j m:Nat} (hm:ms[j]?=some m):∃b o,a=some ⟨b,o,none⟩/\b<B/\w.cell? ⟨b,o+j,none⟩=some (.int k (m:Int)):=by
 rcases h with rfl|⟨b,o,rfl,hb,hc⟩
 ·simp at hm
 ·exact ⟨b,o,rfl,hb,hc j m hm⟩
theorem RdN.below (h:RdN k w B a ms) (hb:Below B w w'):RdN k w' B a ms:=by
 rcases h with rfl|⟨b,o,rfl,hl,hc⟩
 ·exact .inl rfl
 ·exact .inr ⟨b,o,rfl,hl,fun j m hm=>(hb.cell (p:=⟨b,o+j,none⟩) hl).trans (hc j m hm)⟩
theorem RdN.take (h:RdN k w B a ms) (n:Nat):RdN k w B a (ms.take n):=by
 rcases h with rfl|⟨b,o,rfl,hl,hc⟩
 ·exact .inl (by simp)
 ·refine .inr ⟨b,o,rfl,hl,fun j m hm=>hc j m ?_⟩;rw[Tw] at hm
  split at hm
  ·exact hm
  ·cases hm
end
abbrev sv (l:LU):Value:=.string ⟨l.toArray⟩
theorem RdI.rdN {k:IntKind} {w:World} {B:Nat} {a:OA} {ms:LN} (h:RdI k w B a ms):RdN k w B a ms:=h
theorem RdN.rdI {k:IntKind} {w:World} {B:Nat} {a:OA} {ms:LN} (h:RdN k w B a ms):RdI k w B a ms:=h
theorem Row.rdN {k:IntKind} {w:World} {B:Nat} {e:TypeId} {a:OA} {n c:Nat} {ms:LN} (h:Row w B e 1 a n c (ms.map (nv3 k))):RdN k w w.heap.size a ms:=by
 by_cases h0:ms=[]
 ·exact .inl h0
 ·obtain ⟨m,hm⟩:∃m,ms[0]?=some m:=by
   cases ms with
   |nil=>exact absurd rfl h0
   |cons m r=>exact ⟨m,rfl⟩
  obtain ⟨g,rfl,_,hg,_⟩:=h.at_ (j:=0) (x:=nv3 k m) (by rw[UP,hm];rfl);refine .inr ⟨g,0,rfl,hg,fun j x hx=>?_⟩;obtain ⟨g',e,_,_,hc⟩:=h.at_ (j:=j) (x:=nv3 k x) (by rw[UP,hx];rfl);injection e with e;injection e with e;subst e;rw[UH];exact hc
theorem Qf4 (w:World) (a:OA) (n c k:Nat) (h:k<=c):(Instr.slice 85 (.slice a n c) none (some (.int .i64 (k:Int))) (some (.int .i64 (k:Int)))).run Tryz.prog w=.ok (.slice a k k) w:=by
 have ht:Tryz.prog.underlying 85=some (.slice (Tryz.prog.elem 85)):=by kernel_rfl
 have hs:(sizeOf (Tryz.prog.elem 85)).run Tryz.prog w=.ok 1 w:=by kernel_rfl
 rw[run_slice_hm w _ a n c ht .i64 .i64 (k:Int) (k:Int) (by omega) (by omega) (by omega),hs]
 show Result.ok (Value.slice (Qre a ((k:Int).toNat) 0 1) _ _) w=_
 rw[Qcf,Xba,Nat.sub_zero]
theorem Qcj (a:OA) (n c:Nat) (ms:LN) (w:World) {B:Nat} (hn:ms.length=n) (hc:n<=c) (D7:c<=9223372036854775807) (h:RdN .u32 w B a ms):
 Calls Tryz.prog 114 #[.slice a n c] w fun e w'=>e=.returned (.slice a (trimL ms).length (trimL ms).length)/\w=w':=by
 have H:=Ub h;have HN:=Ub hn;clear h hn
 go_enter Tryz.func114,Tryz.ntmps114
 go_wp2_with fail
 go_loop [3] (fun v=>∃i:Nat,v=.int .i64 (i:Int)/\i<=n/\trimL ms=trimL (ms.take i)) (fun v=>(intOf v).toNat)
 case atStart=>exact ⟨n,rfl,Ue _,by rw[Uw (by rw[HN.out];exact Ue _)]⟩
 case round=>
  obtain ⟨i,rfl,hi,ht⟩:=hrel;rcases Xa7 i with rfl|E2
  ·have HT:=Ub (show (trimL ms).length=0 by rw[ht];rfl);have QP:=fun w=>Qf4 w a n c 0 (by omega);clear ht
   go_wp2_with fail
   go_ret;rw[HT.out];exact ⟨rfl,rfl⟩
  ·obtain ⟨i,rfl⟩:∃i',i=i'+1:=⟨i-1,by omega⟩;obtain ⟨m,hm⟩:∃m,ms[i]?=some m:=⟨_,Ua (by rw[HN.out];omega)⟩;obtain ⟨b,o,rfl,hb,R0⟩:=H.out.at_ hm;have V5:ms.take (i+1)=ms.take i++[m]:=(by rw[Tc,hm];rfl);have h0:(0:Int)<=(i:Int):=(by omega);have h1:(i:Int)<(n:Int):=by omega
   by_cases hz:m=0
   ·subst hz;have HT:=Ub (show trimL ms=trimL (ms.take i) by rw[ht,V5,trim_snoc_zero]);clear ht V5 hm
    go_wp2_with fail
    go_round
    case rel=>exact ⟨i,by go_num,by omega,HT.out⟩
    case measure=>simp[intOf]
   ·have HT:=Ub (show (trimL ms).length=i+1 by rw[ht,V5,trim_snoc m hz,Uh,List.length_take_of_le (by rw[HN.out];omega)];rfl);have hz':((m:Int)==0)=false:=(by rw[Uk];omega);have K1:¬((m:Int)=0):=(by omega);have QP:=fun w=>Qf4 w (some ⟨b,o,none⟩) n c (i+1) (by omega);clear ht V5 hm
    go_wp2_with fail
    go_ret;rw[HT.out];exact ⟨rfl,rfl⟩
theorem Q7x:(Tryz.prog.info? 150).map (fun i=>(i.zero,i.size,i.bytes))=some (some (.int .u32 0),1,4):=by kernel_rfl
theorem Qrl (v:Nat) (h:v<18446744073709551616):bits BinOp.and IntKind.u64 (v:Int) 4294967295=((v%4294967296:Nat):Int):=
 bits_mask .u64 64 (by decide) (fun n h0 h1=>by rw[IntKind.wrap_u64];omega) 32 (by decide) (v:Int) (by omega) (by omega)
theorem Ql3 (ws:LN) (i w:Nat) (h:ws[i]?=some w):halves (ws.take (i+1))=halves (ws.take i)++[w%4294967296,w / 4294967296]:=by
 rw[Tc,h];simp[halves]
theorem Ql4 (a:OA) (n c:Nat) (ws:LN) (w:World) (hn:ws.length=n) (hm:n<=1000000) (h:RdN .u64 w w.heap.size a ws) (hw:∀x∈ws,x<18446744073709551616):
 Calls Tryz.prog 73 #[.slice a n c] w fun e w'=>∃a' n' c',e=.returned (.slice a' n' c')/\n'=(trimL (halves ws)).length/\n'<=c'/\c'<=9223372036854775807/\RdN .u32 w' w'.heap.size a' (trimL (halves ws))/\Bw w w':=by
 have H:=Ub h;have HN:=Ub hn;have HWS:=Ub hw;clear h hn hw;obtain ⟨i0,E2,P1,G1,K1⟩:=Xbq Q7x
 go_enter Tryz.func73,Tryz.ntmps73
 go_wp2_with fail
 go_loopw [3,4] (fun v iv wr=>∃(i:Nat) (ao:OA) (co:Nat),iv=.int .i64 (i:Int)/\i<=n/\v=.slice ao (2*i) co/\Row wr w.heap.size 150 1 ao (2*i) co ((halves (ws.take i)).map (nv3 .u32))/\Bw w wr) (fun _ iv _=>n-(intOf iv).toNat)
 case atStart=>exact ⟨0,none,0,rfl,Ut _,rfl,Row.nil_ _ _ _ _,Ug _ _⟩
 case round=>
  obtain ⟨i,ao,co,rfl,hi,rfl,I0,Qc⟩:=hrel
  by_cases E0:i<n
  ·obtain ⟨x,hx⟩:∃x,ws[i]?=some x:=⟨_,Ua (by rw[HN.out];omega)⟩;have hx64:=HWS.out x (Uf hx);obtain ⟨b,o,rfl,hb,R0⟩:=(H.out.below Qc).at_ hx;have HS:=Ub (Ql3 ws i x hx);have HB:=Ub Qc;have HR:=Ub I0;have J4:wr.ownsRow w.heap.size 150 1 (.slice ao (2*i) co) (2*i) ((halves (ws.take i)).map (nv3 .u32)):=I0;have h0:(0:Int)<=(i:Int):=(by omega);have h1:(i:Int)<(n:Int):=(by omega);have B6:=Qrl x hx64;have F7:(((x%4294967296:Nat):Int))<4294967296:=(by omega);have A2:=Qc.size;have e1:IntKind.u32.wrap ((x:Int)%4294967296)=(x:Int)%4294967296:=(by rw[IntKind.wrap_u32];omega);have e2:IntKind.u32.wrap ((x:Int) / 4294967296)=(x:Int) / 4294967296:=(by rw[IntKind.wrap_u32];omega);clear hx I0 Qc
   go_wp2_with fail
   go_region_held_law (fun w'=>w'.cell? ⟨b,o+i,none⟩=some (.int .u64 (x:Int))) (first|go_keep|(rw[K3.cell_far _ (by simp;omega) (by rcases Row.form HR.out with ⟨h,_⟩|⟨g,cur,h,hg,_⟩ <;> (rw[h];simp[Value.ownBlock];try omega))];assumption))
    ((refine step_append_lies _ (by rfl) _ _ _ (by rfl) w.heap.size 150 i0 _ 1 4 Tryz.underlying85 E2 P1 G1 K1 rfl (by omega) (.slice ao (2*i) co) (2*i) _ (by rfl) ((J4.alloc _).drew)
       ⟨wr.heap.size,0,none⟩ 2 2 [.int .u32 ((x:Int)%4294967296),.int .u32 ((x:Int) / 4294967296)] (by rfl) (by rfl) (Tx (cs:= #[.int .u32 ((x:Int)%4294967296),.int .u32 ((x:Int) / 4294967296)]) (t:=150) (fr:=(0,0)) (Um wr _)) (by simp[Value.oneCell'])
       (by omega) (by unfold maxLen;omega) (by omega) (by simp;omega) (wr.heap.size+1) (by simp) ?_;intro gg cap w1 Wx K3 Y1 E0))
   have HO:=Xh3 Wx K3 Y1;clear J4 Wx K3 Y1 e1 e2 B6 F7
   go_wp2_with fail
   go_roundw
   case rel=>
    obtain ⟨g1,g2,g3⟩:=HO.out;refine ⟨i+1,some ⟨gg,0,none⟩,cap,by go_num,by omega,rfl,?_,?_⟩
    ·rw[HS.out,UR];exact g1
    ·refine Below.grown (HB.out.alloc A2 _).drew g2 (by simp;omega) fun k hk=>?_;rcases Row.form HR.out with ⟨h,_⟩|⟨g,cur,h,hg,_⟩
     ·rw[h] at hk;cases hk
     ·rw[h] at hk;simp[Value.ownBlock] at hk;omega
   case measure=>simp[intOf];omega
  ·obtain rfl:i=n:=(by omega);rw[Uw (by rw[HN.out];exact Ue _)] at I0;have N0:(halves ws).length=2*i:=(by rw[halves_len,HN.out]);have S3:=I0.cap;have hco:co<=9223372036854775807:=S3.2;have HB:=Xh3 Qc S3.1 hco;have HTR:=Ub (fun wx (hx:wx=wr)=>Qcj ao (2*i) co (halves ws) wx (B:=wr.heap.size) N0 S3.1 hco (by subst hx;exact Row.rdN I0));have HRD:=Ub ((Row.rdN I0).take (trimL (halves ws)).length);have Vy:=Ub (Q4f (halves ws));clear I0 Qc S3 N0 hi E0 hco
   go_wp2_with (refine (HTR.out _ rfl).mono ?_;rintro e w' ⟨rfl,rfl⟩)
   go_ret;refine ⟨ao,_,_,rfl,rfl,Ue _,?_,?_,(Xo0 HB)⟩
   ·have:=trim_len (halves ws);rw[halves_len,HN.out] at this;omega
   ·have h2:=HRD.out;rw[<-Vy.out] at h2;exact h2
theorem Q7y {α:Type} (l:List α) (i:Nat) (m:α) (h:l[i]?=some m):l.drop i=m::l.drop (i+1):=by
 obtain ⟨hi,rfl⟩:=Ul.1 h;exact UG hi
end Go.Proofs.YtidojbkhlenahaaGreatDoor
namespace Go.Proofs.YtidojbkhlenahaaGreatDoor
open Go.RowKit WordsM
theorem Qy4 (l:LN):NatM.val l=val (2^32) l:=by
 induction l with
 |nil=>rfl
 |cons x r ih=>simp only[NatM.val,val,ih]
theorem Qbv (l:LN):NatM.trimL l=trimL l:=by
 induction h:l.length generalizing l with
 |zero=>obtain rfl:=UJ.1 h;rfl
 |succ n ih=>
  rcases List.eq_nil_or_concat l with rfl|⟨r,x,rfl⟩
  ·simp at h
  ·rw[List.concat_eq_append] at h⊢
   by_cases h0:x=0
   ·subst h0;rw[NatM.trim_snoc_zero,Q3r];exact ih r (by simpa using h)
   ·rw[NatM.trim_snoc x h0,Q54 r h0]
structure Q0r (w:World) (a:OA) (n c:Nat) (v:Nat):Prop where
 len:(dig (2^32) v).length=n
 cap:n<=c
 most:c<=9223372036854775807
 rd:RdI .u32 w w.heap.size a (dig (2^32) v)
theorem Q0r.step {w w':World} {a:OA} {n c v:Nat} (h:Q0r w a n c v) (hb:Bw w w'):Q0r w' a n c v:=⟨h.len,h.cap,h.most,h.rd.step hb⟩
theorem Q5b (a:OA) (n c:Nat) (ls:LN) (w:World) (hn:ls.length=n) (hc:n<=c) (D7:c<=9223372036854775807) (h:RdI .u32 w w.heap.size a ls) (hl:Low (2^32) ls):
 Calls Tryz.prog 114 #[.slice a n c] w fun e w'=>∃n',e=.returned (.slice a n' n')/\n'<=n/\Q0r w' a n' n' (val (2^32) ls)/\w=w':=by
 refine (Qcj a n c ls w hn hc D7 h).mono ?_;rintro e w' ⟨rfl,rfl⟩;have h1:NatM.trimL ls=dig (2^32) (val (2^32) ls):=by rw[Qbv,Q1l (by decide) hl]
 have h2:=trim_len ls;rw[<-Qbv,h1,hn] at h2;rw[h1];refine ⟨_,rfl,h2,⟨rfl,Ue _,by omega,?_⟩,rfl⟩;rw[<-h1,Qbv,<-Q4f ls];exact h.front _
theorem Qbw {B:Nat} (hB:0<B) {l:LN} (h:Low B l) (i:Nat):l[i]?.getD 0<B:=by
 cases hx:l[i]? with
 |none=>exact hB
 |some x=>exact h x (Uf hx)
theorem Q5s {B:Nat} (l:LN) (i:Nat):val B (l.take (i+1))=val B (l.take i)+B^i*l[i]?.getD 0:=by
 cases hx:l[i]? with
 |none=>
  have h:l.length<=i:=List.getElem?_eq_none_iff.1 hx;rw[Uw (by omega),Uw h];simp
 |some x=>exact Q1c l i x hx
theorem Q7f (a:OA) (n c:Nat) (ls:LN) (i:Nat) (w:World) {B:Nat} (hn:ls.length=n) (h:RdI .u32 w B a ls) (hl:Low (2^32) ls):
 Calls Tryz.prog 193 #[.slice a n c,.int .i64 (i:Int)] w fun e w'=>e=.returned (.int .u64 ((ls[i]?.getD 0:Nat):Int))/\w=w':=by
 by_cases E0:i<n
 ·obtain ⟨x,hx⟩:∃x,ls[i]?=some x:=⟨_,Ua (by omega)⟩;have D4:x<4294967296:=hl x (Uf hx);have J0:(i:Int)<(n:Int):=by omega
  obtain ⟨b,o,rfl,U4,R0⟩:=h.at_ hx;rw[hx,Xao];clear hx h hl
  go_enter Tryz.func193,Tryz.ntmps193
  go_wp2_with fail
  go_ret;exact ⟨rfl,rfl⟩
 ·have J0:¬(i:Int)<(n:Int):=by omega
  rw[UU (by omega),Option.getD_none];clear h hl
  go_enter Tryz.func193,Tryz.ntmps193
  go_wp2_with fail
  go_ret;exact ⟨rfl,rfl⟩
theorem Qvf {B:Nat} {A K L:LN} {i cr s:Nat} (hL:L.length=i) (hs:A[i]?.getD 0+K[i]?.getD 0+cr=s) (h:val B L+cr*B^i=val B (A.take i)+val B (K.take i)):
 val B (L++[s%B])+s / B*B^(i+1)=val B (A.take (i+1))+val B (K.take (i+1)):=by
 have h2:(s%B+B*(s / B))*B^i=s*B^i:=by rw[Nat.mod_add_div]
 rw[Tm] at h2;rw[Q9e,hL,Q5s,Q5s,UC (B^i) (s%B),UC (B^i),UC (B^i),Tf,UC (B^i) B,<-UL,UC (s / B) B];have h3:(A[i]?.getD 0+K[i]?.getD 0+cr)*B^i=s*B^i:=by rw[hs]
 rw[Tm,Tm] at h3;omega
theorem Qag (K:IntKind) (x:Int):∀u∈[Value.int K x],u.oneCell'=true:=by
 intro u hu;rw[Ux] at hu;subst hu;rfl
theorem Qgg {B:Nat} {l:LN} (h:Low B l) {x:Nat} (hx:x<B):Low B (l++[x]):=fun y hy=>by
 rcases Tq.1 hy with h1|h1
 ·exact h y h1
 ·rw[Ux] at h1;subst h1;exact hx
theorem Row.rdI {k:IntKind} {w:World} {B:Nat} {e:TypeId} {a:OA} {n c:Nat} {ms:LN} (h:Row w B e 1 a n c (ms.map (nv k))):RdI k w w.heap.size a ms:=(Row.rdN (k:=k) (ms:=ms) h).rdI
theorem Qox (a:OA) (n c:Nat) (v:Nat) (b:OA) (m d:Nat) (u:Nat) (w:World) (h1:Q0r w a n c v) (h2:Q0r w b m d u) (hn:n<=100000) (hm:m<=100000):
 Calls Tryz.prog 138 #[.slice a n c,.slice b m d] w fun e w'=>∃a' n',e=.returned (.slice a' n' n')/\Q0r w' a' n' n' (v+u)/\Bw w w':=by
 have JL:val (2^32) (dig (2^32) v)=v:=Q0v (by decide) v;have JC:val (2^32) (dig (2^32) u)=u:=Q0v (by decide) u;have ZX:=Q28 (B:=2^32) (by decide) v;have ZD:=Q28 (B:=2^32) (by decide) u;have m6:=h1.len;have ZY:=h2.len;have I2:=h1.rd;have X0:=h2.rd;obtain ⟨A,hA⟩:∃A,dig (2^32) v=A:=⟨_,rfl⟩;obtain ⟨K,hK⟩:∃K,dig (2^32) u=K:=⟨_,rfl⟩;rw[hA] at JL ZX m6 I2;rw[hK] at JC ZD ZY X0;obtain ⟨i0,E2,P1,G1,K1⟩:=Xbq Q7x;have HI:=Xh4 E2 P1 G1 K1;have H:=Xh6 JL JC ZX ZD I2 X0;have hdg1:=fun (i:Nat) W (hb:Bw w W)=>Q7f a n c A i W m6 (I2.below hb) ZX;have Kg:=fun (i:Nat) W (hb:Bw w W)=>Q7f b m d K i W ZY (X0.below hb) ZD;have HD:=Xh2 hdg1 Kg;clear JL JC ZX ZD I2 X0 hA hK h1 h2 hdg1 Kg E2 P1 G1 K1;obtain ⟨M,hM,hMn,hMm,hM3⟩:∃M,M=max n m/\n<=M/\m<=M/\M<=100000:=⟨max n m,rfl,by omega,by omega,by omega⟩
 go_enter Tryz.func138,Tryz.ntmps138
 go_wp2_with fail
 go_loopw [5,6,7] (fun ov cv iv wr=>∃(i cr:Nat) (L:LN) (ao:OA) (co:Nat),ov=.slice ao i co/\cv=.int .u64 (cr:Int)/\iv=.int .i64 (i:Int)/\cr<=1/\(i<=M∨i=M+1/\cr=0)/\Row wr w.heap.size 150 1 ao i co (L.map (nv .u32))/\L.length=i/\Low (2^32) L/\val (2^32) L+cr*(2^32)^i=val (2^32) (A.take i)+val (2^32) (K.take i)/\Bw w wr) (fun _ _ iv _=>M+2-(intOf iv).toNat)
 case atStart=>exact ⟨0,0,[],none,0,rfl,rfl,rfl,by decide,.inl (Ut _),Row.nil_ _ _ _ _,rfl,fun x hx=>by simp at hx,by simp[val],Ug _ _⟩
 case round=>
  obtain ⟨i,cr,L,ao,co,rfl,rfl,rfl,Qe,hiM,I0,o4,S0,M0,hb⟩:=hrel
  by_cases U3:n<=i/\m<=i/\cr=0
  ·obtain ⟨e1,e2,rfl⟩:=U3;rw[Uw (by omega),Uw (by omega),(Xo0 H),(Xo1 H),Xaa,Tz] at M0;have hT:=Q5b ao i co L wr o4 I0.cap.1 I0.cap.2 (Row.rdI I0) S0;rw[M0] at hT;have HT:=Xh2 hT hb;have l1:¬(i:Int)<(n:Int):=(by omega);have l2:¬(i:Int)<(m:Int):=(by omega);clear hT hb M0 S0 I0 hiM
   go_wp2_with (refine (Xo0 HT).mono ?_;rintro e w1 ⟨n',rfl,Zb,hD,rfl⟩;have ZR:=Ub hD;clear hD)
   go_ret;exact ⟨ao,n',rfl,ZR.out,(Xe1 HT)⟩
  ·have hiM':i<=M:=(by omega);have O1:=(Xo0 HD) i wr hb;have E1:=(Xe1 HD) i wr hb;have D4:A[i]?.getD 0<4294967296:=Qbw (by decide) (Xo2 H) i;have Qo:K[i]?.getD 0<4294967296:=Qbw (by decide) (Xo3 H) i;have P0:=Qvf (B:=2^32) (s:=A[i]?.getD 0+K[i]?.getD 0+cr) o4 rfl M0;have S2:i=M->A[i]?.getD 0=0/\K[i]?.getD 0=0:=fun e=>⟨by rw[UU (by omega)];rfl,by rw[UU (by omega)];rfl⟩;generalize A[i]?.getD 0=x at*;generalize K[i]?.getD 0=y at*;obtain ⟨s,hs⟩:∃s,x+y+cr=s:=⟨_,rfl⟩;have hsI:(cr:Int)+((x:Int)+(y:Int))=(s:Int):=(by omega);have QP:s<18446744073709551616:=(by omega);have B6:=Qrl s QP;rw[hs] at P0;obtain ⟨lo,i4⟩:∃lo,s%4294967296=lo:=⟨_,rfl⟩;obtain ⟨hi,Qd⟩:∃hi,s / 4294967296=hi:=⟨_,rfl⟩;rw[show s%2^32=lo from i4,show s / 2^32=hi from Qd] at P0;have hhiI:(s:Int) / 4294967296=(hi:Int):=(by omega);have Qk:lo<4294967296:=(by omega);have X8:hi<=1:=(by omega);have hiM2:i+1<=M∨i+1=M+1/\hi=0:=by
    rcases Nat.lt_or_ge i M with h|h
    ·exact .inl h
    ·have:=S2 (by omega);exact .inr (by omega)
   rw[i4] at B6;have hbs:=hb.size;have J1:∀o,Bw w (wr.alloc o):=fun o=>hb.alloc hb.size o;have Q3:∀o,w.heap.size<=(wr.alloc o).heap.size:=fun o=>(J1 o).size;have QY:∀o,Row (wr.alloc o) w.heap.size 150 1 ao i co (L.map (nv .u32)):=fun o=>I0.alloc o;have HH:=Xh6 P0 QY J1 Q3 S0 hiM2;have key:(i:Int)<(n:Int)∨(¬(i:Int)<(n:Int)/\(i:Int)<(m:Int))∨(¬(i:Int)<(n:Int)/\¬(i:Int)<(m:Int)/\(0:Int)<(cr:Int)):=(by omega);clear P0 QY J1 Q3 S0 hiM2 hb I0 S2 M0 hs i4 Qd hiM U3 D4 Qo;rcases key with l1|⟨l1,l2⟩|⟨l1,l2,l3⟩
   all_goals
    go_wp2_with (first
     |(go_at_call_of 193 a;refine O1.mono ?_;rintro e w1 ⟨rfl,rfl⟩)
     |(go_at_call_of 193 b;refine E1.mono ?_;rintro e w1 ⟨rfl,rfl⟩)
     |(at_builtin;refine Q0o rfl (.tmp 33) (.tmp 37) 85 rfl w _ 150 i0 _ 1 4 Tryz.underlying85 (Xo0 HI) (Xo1 HI) (Xo2 HI) (Xe3 HI) rfl (by decide) w.heap.size ((Xo2 HH) _) ((Xo3 HH) _) ao i co _ rfl ((Xo1 HH) _) ⟨wr.heap.size,0,none⟩ 1 1 [.int .u32 (lo:Int)] rfl rfl (Q3f wr #[.int .u32 (lo:Int)] _ _) (Qag _ _) (i+1) rfl (by omega) (by omega) ?_;intro a3 c3 w3 Z7 X9 G0 T5;have HO:=Xh2 Z7 G0;clear Z7 X9 G0 T5))
    refine ⟨⟨i+1,hi,L++[lo],a3,c3,rfl,rfl,by simp,X8,(Xe5 HH),?_,by simp[o4],Qgg (Xo4 HH) Qk,(Xo0 HH),(Xe1 HO)⟩,by simp only[intOf];omega⟩;rw[UR];exact (Xo0 HO)
theorem Qhr {B:Nat} {A K:LN} {i x S:Nat} (hx:A[i]?=some x) (h:S=val B (A.take i)*val B K+x*B^i*val B K):S=val B (A.take (i+1))*val B K:=by
 rw[Q1c A i x hx,h,Tm,UC x]
theorem Qhs {B V:Nat} {K:LN} {i j x y:Nat} (hy:K[j]?=some y):V+x*B^i*val B (K.take j)+x*y*B^(i+j)=V+x*B^i*val B (K.take (j+1)):=by
 rw[Q1c K j y hy,Tv,Tp,Nat.add_assoc]
 congr 2
 rw[UL x (B^i),<-UL (B^i) (B^j) y,UC (B^i*B^j) y];simp only[UL]
theorem Qrm {T:TypeId} {K:IntKind} {w:World} {g:Nat} {ls:LN} (h:Arr T K w g ls) (k:Nat):Arr T K (w.drewN k) g ls:=h
theorem Q1d {B:Nat} {a w:World} (h:Below B a w) (k:Nat):Below B a (w.drewN k):=⟨h.os,h.tape,h.output,h.size,h.block⟩
theorem Qoy (a:OA) (n c:Nat) (v:Nat) (b:OA) (m d:Nat) (u:Nat) (w:World) (h1:Q0r w a n c v) (h2:Q0r w b m d u) (hn:n<=100000) (hm:m<=100000):
 Calls Tryz.prog 139 #[.slice a n c,.slice b m d] w fun e w'=>∃a' n',e=.returned (.slice a' n' n')/\Q0r w' a' n' n' (v*u)/\Bw w w':=by
 have JL:val (2^32) (dig (2^32) v)=v:=Q0v (by decide) v;have JC:val (2^32) (dig (2^32) u)=u:=Q0v (by decide) u;have ZX:=Q28 (B:=2^32) (by decide) v;have ZD:=Q28 (B:=2^32) (by decide) u;have m6:=h1.len;have ZY:=h2.len;have I2:=h1.rd;have X0:=h2.rd;obtain ⟨A,hA⟩:∃A,dig (2^32) v=A:=⟨_,rfl⟩;obtain ⟨K,hK⟩:∃K,dig (2^32) u=K:=⟨_,rfl⟩;rw[hA] at JL ZX m6 I2;rw[hK] at JC ZD ZY X0;subst m6;subst ZY;have H:=Xh4 JL JC ZX ZD;have HR:=Xh2 I2 X0;clear JL JC ZX ZD I2 X0 hA hK h1 h2;have C4:=Xa8 (P:=Tryz.prog) 85 150 (.int .u32 0) 4 Tryz.underlying85 Q7x rfl .i64 .i64 (A.length+K.length) (by omega) (by omega);rw[show ((A.length+K.length:Nat):Int)=(A.length:Int)+(K.length:Int) by omega,Q22] at C4
 go_enter Tryz.func139,Tryz.ntmps139
 go_wp2_with fail
 have Z2:Bw w (w.alloc (.cells (Array.replicate (A.length+K.length) (nv .u32 0)) 150)):=Ba;have C9:=Arr.zeros w 150 .u32 (A.length+K.length);have H0:=Xh2 Z2 C9;clear Z2 C9 C4
 go_loopw [6] (fun iv wr=>∃(i:Nat) (L:LN),iv=.int .i64 (i:Int)/\i<=A.length/\Arr 150 .u32 wr w.heap.size L/\L.length=A.length+K.length/\Low (2^32) L/\val (2^32) L=val (2^32) (A.take i)*val (2^32) K/\(∀t,i+K.length<=t->t<A.length+K.length->L[t]?=some 0)/\Bw w wr) (fun iv _=>A.length-(intOf iv).toNat)
 case atStart=>
  refine ⟨0,List.replicate (A.length+K.length) 0,rfl,Ut _,(Xe1 H0),by simp,fun x hx=>?_,by rw[Q7c];simp[val],fun t _ ht=>?_,(Xo0 H0)⟩
  ·rw[TM hx];decide
  ·rw[TD];simp[ht]
 case round=>
  obtain ⟨i,L,rfl,hi,hL,o4,S0,M0,Q4,O0⟩:=hrel
  by_cases E0:i<A.length
  ·have J0:(i:Int)<(A.length:Int):=(by omega);obtain ⟨x,hx⟩:∃x,A[i]?=some x:=⟨_,Ua E0⟩;obtain ⟨ba,oa,U5,J1,u5⟩:=((Xo0 HR).below O0).at_ hx;have D4:x<4294967296:=(Xo2 H) x (Uf hx);subst U5;have HH:=Xh6 hL S0 M0 O0 hx Q4;clear hL S0 M0 O0 Q4 hx u5
   go_wp2_with fail
   go_loopw [7,8] (fun cv jv wr=>∃(j cr:Nat) (L:LN),cv=.int .u64 (cr:Int)/\jv=.int .i64 (j:Int)/\j<=K.length/\cr<4294967296/\Arr 150 .u32 wr w.heap.size L/\L.length=A.length+K.length/\Low (2^32) L/\val (2^32) L+cr*(2^32)^(i+j)=val (2^32) (A.take i)*val (2^32) K+x*(2^32)^i*val (2^32) (K.take j)/\(∀t,i+K.length<=t->t<A.length+K.length->L[t]?=some 0)/\Bw w wr) (fun _ jv _=>K.length-(intOf jv).toNat)
   case atStart=>exact ⟨0,0,L,rfl,rfl,Ut _,by decide,(Xo0 HH),o4,(Xo1 HH),by rw[(Xo2 HH)];simp[val],(Xe5 HH),(Xo3 HH)⟩
   case round=>
    have HX:=Ub (Xo4 HH);clear o4 HH;obtain ⟨j,cr,L,rfl,rfl,hj,Qe,hL,o4,S0,M0,Q4,O0⟩:=hrel
    by_cases hlj:j<K.length
    ·have hlj':(j:Int)<(K.length:Int):=(by omega);obtain ⟨y,hy⟩:∃y,K[j]?=some y:=⟨_,Ua hlj⟩;obtain ⟨z,hz⟩:∃z,L[i+j]?=some z:=⟨_,Ua (by omega)⟩;obtain ⟨bb,ob,t6,E4,K9⟩:=((Xe1 HR).below O0).at_ hy;obtain ⟨ba',oa',hae',hba',u5⟩:=((Xo0 HR).below O0).at_ HX.out;injection hae' with hae';injection hae' with e1 e2;subst e1 e2;have Qo:y<4294967296:=(Xe3 H) y (Uf hy);have m8:z<4294967296:=S0 z (Uf hz);subst t6;have N6:=(Qn3 (B:=4294967296) (by decide) D4 Qo m8 Qe).2.2;have P0:=Qbu (B:=2^32) (b:=x*y) (c:=cr) hz M0;rw[Qhs hy] at P0;have hp:x*y<=4294967295*4294967295:=Nat.mul_le_mul (by omega) (by omega);obtain ⟨p,hpp⟩:∃p,x*y=p:=⟨_,rfl⟩;have Yy:(x:Int)*(y:Int)=(p:Int):=(by rw[<-hpp];norm_cast);rw[hpp] at hp P0 N6;obtain ⟨s,hs⟩:∃s,z+p+cr=s:=⟨_,rfl⟩;have hsI:(cr:Int)+((p:Int)+(z:Int))=(s:Int):=(by omega);have QP:s<18446744073709551616:=(by omega);have R7:(p:Int)+(z:Int)<18446744073709551616:=(by omega);have hpl2:(p:Int)<18446744073709551616:=(by omega);rw[hs] at P0 N6;have B6:=Qrl s QP;obtain ⟨lo,i4⟩:∃lo,s%4294967296=lo:=⟨_,rfl⟩;obtain ⟨QJ,Qd⟩:∃hi,s / 4294967296=hi:=⟨_,rfl⟩;rw[show s%2^32=lo from i4,show s / 2^32=QJ from Qd] at P0;rw[i4] at B6;rw[Qd] at N6;have hhiI:(s:Int) / 4294967296=(QJ:Int):=(by omega);have Qk:lo<4294967296:=(by omega);have YV:wr.cell? ⟨w.heap.size,i+j,none⟩=some (.int .u32 (z:Int)):=hL.cell hz;have YN:wr.frozen? ⟨w.heap.size,i+j,none⟩=false:=hL.frozen _;have Vo:(i:Int)+(j:Int)<(A.length:Int)+(K.length:Int):=(by omega);have HH:=Xh5 P0 hL S0 O0 Q4;clear P0 hL S0 M0 O0 Q4 hs i4 Qd hpp hy hz
     go_wp2_with fail
     go_quiet (fail)
     go_wp2_with fail
     refine ⟨⟨j+1,QJ,L.set (i+j) lo,by simp,by simp,by omega,N6,(Qrm (Xo1 HH) nq).set (i+j) lo,by simp[o4],Q43 (Xo2 HH) Qk,(Xo0 HH),fun t Q2 M1=>?_,(Q1d (Xo3 HH) nq).setCell (p:=⟨w.heap.size,i+j,none⟩) (Ue _) _⟩,by simp only[intOf];omega⟩;rw[Te (by omega)];exact (Xe4 HH) t Q2 M1
    ·obtain rfl:j=K.length:=(by omega);have hlj':¬((K.length:Int)<(K.length:Int)):=(by omega);have P1:=Q4 (i+K.length) (Ue _) (by omega);have YV:wr.cell? ⟨w.heap.size,i+K.length,none⟩=some (.int .u32 0):=hL.cell P1;have YN:wr.frozen? ⟨w.heap.size,i+K.length,none⟩=false:=hL.frozen _;have Vo:(i:Int)+(K.length:Int)<(A.length:Int)+(K.length:Int):=(by omega);have D5:=Qaf (B:=2^32) L (i+K.length) cr 0 P1;rw[Xaa,Tz,M0,Tn] at D5;have hvo:=Qhr HX.out D5;have HH:=Xh5 hvo hL S0 O0 Q4;clear D5 hvo M0 hL S0 O0 Q4 P1
     go_wp2_with fail
     refine ⟨⟨i+1,L.set (i+K.length) cr,by simp,by omega,(Xo1 HH).set _ cr,by simp[o4],Q43 (Xo2 HH) Qe,(Xo0 HH),fun t Q2 M1=>?_,(Xo3 HH).setCell (p:=⟨w.heap.size,i+K.length,none⟩) (Ue _) _⟩,by simp only[intOf];omega⟩;rw[Te (by omega)];exact (Xe4 HH) t (by omega) M1
  ·obtain rfl:i=A.length:=(by omega);have J0:¬((A.length:Int)<(A.length:Int)):=(by omega);rw[Tn,(Xo0 H),(Xo1 H)] at M0;have hT:=Q5b (some ⟨w.heap.size,0,none⟩) (A.length+K.length) (A.length+K.length) L wr o4 (Ue _) (by omega) hL.rd S0;rw[M0] at hT;have HE:=Xh2 hT O0;clear hT O0 M0 hL S0 Q4
   go_wp2_with (refine (Xo0 HE).mono ?_;rintro e w1 ⟨n',rfl,Zb,hD,rfl⟩;have ZR:=Ub hD;clear hD)
   go_ret;exact ⟨_,n',rfl,ZR.out,(Xe1 HE)⟩
theorem Qy5 {ls:LN} {i x k m:Nat} (h0:val (2^32) (ls.take i)=0) (hx:ls[i]?=some x) (he:x=2^k*(2*m+1)) (hk:k<32):Qn5 (val (2^32) ls) (32*i+k):=by
 have hi:i<ls.length:=(Ul.1 hx).1;have WK:ls[i]=x:=(Ul.1 hx).2;have h1:=Q3s (B:=2^32) ls i;rw[h0,UH,UG hi,WK] at h1;simp only[val] at h1;obtain ⟨V,hV⟩:∃V,val (2^32) (ls.drop (i+1))=V:=⟨_,rfl⟩;rw[hV] at h1;obtain ⟨t,ht⟩:∃t,32=k+(t+1):=⟨31-k,by omega⟩;have e1:x+2^32*V=2^k*(2*(m+2^t*V)+1):=by
  rw[he,show (2:Nat)^32=2^k*(2^t*2) by rw[<-Tf,<-Tp,<-ht],UL,<-Tv]
  congr 1
  rw[UC (2^t) 2,UL,Tv];omega
 rw[e1,<-TZ,<-UL,<-Tp] at h1;rw[h1];have hp:0<2^(32*i+k):=Tr (by decide);exact ⟨Nat.mul_mod_right _ _,by rw[Nat.mul_div_cancel_left _ hp];omega⟩
theorem Qvg (q:Nat) (h:q<4294967296):bits BinOp.and IntKind.u32 (q:Int) 1=((q%2:Nat):Int):=
 bits_mask .u32 32 (by decide) (fun n h0 h1=>by rw[IntKind.wrap_u32];omega) 1 (by decide) (q:Int) (by omega) (by omega)
theorem Q7g (a:OA) (n c:Nat) (v:Nat) (w:World) (h:Q0r w a n c v) (hn:n<=1000000) (h0:v≠0):
 Calls Tryz.prog 166 #[.slice a n c] w fun e w'=>(∃z:Nat,e=.returned (.int .i64 (z:Int))/\Qn5 v z/\z<32*n)/\Bw w w':=by
 have hv:val (2^32) (dig (2^32) v)=v:=Q0v (by decide) v;have hl:=Q28 (B:=2^32) (by decide) v;have m6:=h.len;have hr:=h.rd;obtain ⟨A,hA⟩:∃A,dig (2^32) v=A:=⟨_,rfl⟩;rw[hA] at hv hl m6 hr;have H:=Xh4 hv hl hr h0;clear hv hl hr hA h h0
 go_enter Tryz.func166,Tryz.ntmps166
 go_wp2_with fail
 go_loopw [3,4] (fun nv iv wr=>∃i:Nat,nv=.int .i64 (32*(i:Int))/\iv=.int .i64 (i:Int)/\i<=n/\val (2^32) (A.take i)=0/\Bw w wr) (fun _ iv _=>n-(intOf iv).toNat)
 case atStart=>exact ⟨0,rfl,rfl,Ut _,by simp[val],Ug _ _⟩
 case round=>
  obtain ⟨i,rfl,rfl,hi,hz,hb⟩:=hrel
  by_cases E0:i<n
  ·have J0:(i:Int)<(n:Int):=(by omega);obtain ⟨x,hx⟩:∃x,A[i]?=some x:=⟨_,Ua (by omega)⟩;have D4:x<4294967296:=(Xo1 H) x (Uf hx);obtain ⟨g1,o1,U5,R6,u5⟩:=((Xo2 H).below hb).at_ hx;subst U5;have HH:=Xh3 hz hb hx;clear hz hb hx
   by_cases m5:x=0
   ·subst m5
    go_wp2_with fail
    refine ⟨⟨i+1,by simp only[Xbc,true_and];omega,by simp,by omega,?_,(Xo1 HH)⟩,by simp only[intOf];omega⟩;rw[Q1c A i 0 (Xe2 HH),(Xo0 HH),Nat.mul_zero]
   ·have hx0':((x:Int)==0)=false:=by rw[Uk];omega
    go_wp2_with fail
    go_loopw [3,5] (fun nv xv wq=>∃k q:Nat,nv=.int .i64 (32*(i:Int)+(k:Int))/\xv=.int .u32 (q:Int)/\q≠0/\q<4294967296/\x=2^k*q/\k<32/\wq=wr) (fun _ xv _=>(intOf xv).toNat)
    case atStart=>exact ⟨0,x,by simp,rfl,m5,D4,by simp,by decide,rfl⟩
    case round=>
     obtain ⟨k,q,rfl,rfl,m9,VZ,hxq,hk,rfl⟩:=hrel;have B6:=Qvg q VZ
     by_cases Kq:q%2=1
     ·rw[Kq] at B6;have htz:=Qy5 (Xo0 HH) (Xe2 HH) (m:=q / 2) (k:=k) (by rw[hxq];congr 1;omega) hk;rw[(Xo0 H)] at htz;have HT:=Ub htz;clear htz hxq Kq
      go_wp2_with fail
      go_ret;exact ⟨⟨32*i+k,by simp,HT.out,by omega⟩,(Xo1 HH)⟩
     ·have he:q%2=0:=(by omega);rw[he] at B6;obtain ⟨p,hp⟩:∃p,q=2*p:=⟨q / 2,by omega⟩;have Yy:(q:Int) / 2=(p:Int):=(by omega);have o5:k+1<32:=by
       rcases Nat.lt_or_ge (k+1) 32 with h|h
       ·exact h
       ·exfalso;obtain rfl:k=31:=(by omega);rw[hp,show (2:Nat)^31=2147483648 from rfl] at hxq;omega
      have hxp:x=2^(k+1)*p:=(by rw[hxq,hp,Tf,UL]);have HX:=Xh2 hxp hp;clear hxp hxq Kq he hp
      go_wp2_with fail
      refine ⟨⟨k+1,p,?_,rfl,?_,?_,(Xo0 HX),o5,trivial⟩,?_⟩
      ·simp only[Xbc,true_and];omega
      ·have:=(Xe1 HX);omega
      ·have:=(Xe1 HX);omega
      ·simp only[intOf];have:=(Xe1 HX);omega
  ·exfalso;rw[Uw (by omega),(Xo0 H)] at hz;exact (Xe3 H) hz
theorem Qrn {x y s:Nat} (hx:x<2^32) (hs:s<32):(x+y*2^32) / 2^s%2^32=x / 2^s+(y*2^(32-s))%2^32:=by
 have hp:(2:Nat)^32=2^s*2^(32-s):=by rw[<-Tp];congr 1;omega
 have h1:=Qri (s:=s) (t:=32-s) (x:=x) (y:=y) (by rw[show s+(32-s)=32 by omega];exact hx);rw[show s+(32-s)=32 by omega] at h1;have e1:(x+y*2^32) / 2^s=x / 2^s+y*2^(32-s):=by
  rw[hp,<-UL,UC y,UL,Xbj _ _ (Tr (by decide))]
 rw[e1,Nat.add_mod,Xal (a:=x / 2^s) (TS (Xbt _ _) hx),Xal h1]
theorem Qoz (A:LN) (hA:Low (2^32) A) (k s:Nat) (hk:k<=A.length) (hs:s<32):val (2^32) (shr s (32-s) (A.drop k))=val (2^32) A / 2^(32*k+s):=by
 have h1:=Qky s (32-s) (A.drop k);rw[show s+(32-s)=32 by omega] at h1;rw[h1,Qn4 (Tr (by decide)) A hA k hk,Nat.div_div_eq_div_mul,<-TZ,<-Tp]
theorem Qp0 {A:LN} (hA:Low (2^32) A) (k s:Nat) (hs:s<32):Low (2^32) (shr s (32-s) (A.drop k)):=by
 have h:=Ql0 (s:=s) (t:=32-s) (l:=A.drop k) (by rw[show s+(32-s)=32 by omega];exact fun x hx=>hA x (Xbk hx));rwa[show s+(32-s)=32 by omega] at h
theorem Qp1 {A:LN} (hA:Low (2^32) A) {k s:Nat} (hk:A.length<=k):val (2^32) A / 2^(32*k+s)=0:=by
 apply Xam
 have h1:=Q2z (B:=2^32) (Tr (by decide)) A hA;rw[<-TZ] at h1;exact Uc h1 (UO (by decide) (by omega))
theorem Qro (x y:Nat) (hx:x<4294967296) (hy:y<4294967296):bits BinOp.or IntKind.u64 (x:Int) ((y*4294967296:Nat):Int)=((x+y*4294967296:Nat):Int):=by
 rw[u64_or_nat _ _ (by omega) (by omega),Nat.or_comm];have:=Nat.shiftLeft_add_eq_or_of_lt (a:=y) (i:=32) (b:=x) hx;rw[Nat.shiftLeft_eq] at this;rw[show y*4294967296=y*2^32 from rfl,<-this,Xbf]
theorem Qvh {s t:Nat} {l:LN} {j x:Nat} (h:l[j]?=some x):(shr s t l).take (j+1)=(shr s t l).take j++[x / 2^s+((l[j+1]?).getD 0*2^t)%2^(s+t)]:=by
 rw[Tc,Qkz s t l j x h];rfl
theorem Ql5 (a:OA) (n c:Nat) (v z:Nat) (w:World) (h:Q0r w a n c v) (hn:n<=1000000) (hz:z<=100000000):
 Calls Tryz.prog 194 #[.slice a n c,.int .i64 (z:Int)] w fun e w'=>∃a' n' c' lb,e=.returned (.tuple #[.slice a' n' c',.bool lb])/\Q0r w' a' n' c' (v / 2^z)/\Bw w w':=by
 have hv:val (2^32) (dig (2^32) v)=v:=Q0v (by decide) v;have hl:=Q28 (B:=2^32) (by decide) v;have m6:=h.len;have hr:=h.rd;obtain ⟨A,hA⟩:∃A,dig (2^32) v=A:=⟨_,rfl⟩;rw[hA] at hv hl m6 hr;subst m6;obtain ⟨k,hk⟩:∃k,z / 32=k:=⟨_,rfl⟩;obtain ⟨s,hs⟩:∃s,z%32=s:=⟨_,rfl⟩;have WS:s<32:=by omega
 have KQ:z=32*k+s:=by omega
 have XI:(z:Int).tdiv 32=(k:Int):=by rw[Int.tdiv_eq_ediv_of_nonneg (by omega)];omega
 have hsI:(z:Int).tmod 32=(s:Int):=by rw[Int.tmod_eq_emod_of_nonneg (by omega)];omega
 have hkI2:(z:Int) / 32=(k:Int):=by omega
 have Ym:(z:Int)%32=(s:Int):=by omega
 obtain ⟨i0,E2,P1,G1,K1⟩:=Xbq Q7x;have HI:=Xh4 E2 P1 G1 K1;have H:=Xh4 hv hl hr KQ;clear hv hl hr hA h hk hs KQ E2 P1 G1 K1
 by_cases Vr:A.length<=k
 ·have Zc:(A.length:Int)<=(k:Int):=by omega
  have E9:=Qp1 (s:=s) (Xo1 H) Vr;rw[(Xo0 H),<-(Xe3 H)] at E9;rw[E9];clear E9
  go_enter Tryz.func194,Tryz.ntmps194
  go_wp2_with fail
  refine ⟨rfl,.tuple #[.slice none 0 0,.bool (decide ((0:Int)<(A.length:Int)))],by simp[results,go_sem],none,0,0,_,rfl,⟨rfl,Ue _,Ut _,.inl rfl⟩,Ug _ _⟩
 ·obtain ⟨m,hm⟩:∃m,A.length=k+m:=⟨A.length-k,by omega⟩;have Zc:¬((A.length:Int)<=(k:Int)):=by omega
  have hkn2:(k:Int)<(A.length:Int):=by omega
  go_enter Tryz.func194,Tryz.ntmps194
  go_wp2_with fail
  go_loopw [6,7] (fun lv iv wr=>∃(i:Nat) (lb:Bool),lv=.bool lb/\iv=.int .i64 (i:Int)/\i<=k/\w=wr) (fun _ iv _=>k-(intOf iv).toNat)
  case atStart=>exact ⟨0,false,rfl,rfl,Ut _,rfl⟩
  case round=>
   obtain ⟨i,lb,rfl,rfl,hi,rfl⟩:=hrel
   by_cases E0:i<k
   ·have J0:(i:Int)<(k:Int):=(by omega);obtain ⟨x,hx⟩:∃x,A[i]?=some x:=⟨_,Ua (by omega)⟩;obtain ⟨g1,o1,U5,R6,u5⟩:=(Xo2 H).at_ hx;subst U5;have hil:(i:Int)<(A.length:Int):=(by omega);cases lb
    ·go_wp2_with fail
     exact ⟨⟨i+1,_,rfl,by simp,by omega,trivial⟩,by simp only[intOf];omega⟩
    ·go_wp2_with fail
     exact ⟨⟨i+1,_,rfl,by simp,by omega,trivial⟩,by simp only[intOf];omega⟩
   ·obtain rfl:k=i:=(by omega);have J0:¬((k:Int)<(k:Int)):=(by omega);obtain ⟨x,hx⟩:∃x,A[k]?=some x:=⟨_,Ua (by omega)⟩;obtain ⟨g1,o1,U5,R6,u5⟩:=(Xo2 H).at_ hx;subst U5;clear hx
    go_upto_region 8 with fail
    go_cut [6] (fun lv wx=>∃lb2 nq,lv=.bool lb2/\w.drewN nq=wx)
    case first=>
     cases lb
     ·go_quiet (fail)
      go_wp2_with fail
      go_meet;exact ⟨_,nq,rfl,rfl⟩
     ·go_quiet (fail)
      go_wp2_with fail
      go_meet;exact ⟨_,nq,rfl,rfl⟩
    case rest=>
     obtain ⟨lb2,nq,rfl,rfl⟩:=hcut;have HB0:=Ub (Q1d (Ug w.heap.size w) nq);clear u5 E0 J0 hi
     go_wp2_with fail
     go_loopw [8,9] (fun ov iv wr=>∃(t:Nat) (ao:OA) (co:Nat),ov=.slice ao t co/\iv=.int .i64 ((k:Int)+(t:Int))/\t<=m/\Row wr w.heap.size 150 1 ao t co (((shr s (32-s) (A.drop k)).take t).map (nv .u32))/\Bw w wr) (fun _ iv _=>k+m-(intOf iv).toNat)
     case atStart=>exact ⟨0,none,0,rfl,by simp,Ut _,Row.nil_ _ _ _ _,HB0.out⟩
     case round=>
      obtain ⟨t,ao,co,rfl,rfl,ht,I0,hb⟩:=hrel
      by_cases E0:t<m
      ·have J0:(t:Int)<(m:Int):=(by omega);obtain ⟨y0,Ql⟩:∃y,A[k+t]?=some y:=⟨_,Ua (by omega)⟩;have D4:y0<4294967296:=(Xo1 H) y0 (Uf Ql);obtain ⟨g2,o2,U5,J5,u5⟩:=((Xo2 H).below hb).at_ Ql;injection U5 with U5;injection U5 with e1 e2;subst e1 e2;have Qo:A[k+t+1]?.getD 0<4294967296:=Qbw (by decide) (Xo1 H) (k+t+1);have hd:∀W:World,W.heap=wr.heap->Calls Tryz.prog 193 #[.slice (some ⟨g1,o1,none⟩) (k+m) c,.int .i64 ((k:Int)+(t:Int)+1)] W fun e w'=>e=.returned (.int .u64 ((A[k+t+1]?.getD 0:Nat):Int))/\∃n,w'=W.drewN n:=fun W hW=>by
        have h1:=Q7f (some ⟨g1,o1,none⟩) (k+m) c A (k+t+1) W (B:=w.heap.size) (by omega) (RdI.keep ((Xo2 H).below hb) (fun p _=>by unfold World.cell?;rw[hW])) (Xo1 H);rw[show ((k+t+1:Nat):Int)=(k:Int)+(t:Int)+1 by omega] at h1;refine h1.mono ?_;rintro e w' ⟨rfl,rfl⟩;exact ⟨rfl,0,rfl⟩
       have Jc:=Qvh (s:=s) (t:=32-s) (l:=A.drop k) (j:=t) (x:=y0) (by rw[Xau];exact Ql);rw[Xau,show k+(t+1)=k+t+1 by omega,show s+(32-s)=32 by omega] at Jc;generalize A[k+t+1]?.getD 0=y at*;have hdp:=Qrn (x:=y0) (y:=y) (s:=s) D4 WS;rw[<-hdp] at Jc;have Q7:=Qro y0 y D4 Qo;obtain ⟨q,hq⟩:∃q,y0+y*4294967296=q:=⟨_,rfl⟩;obtain ⟨yy,Vd⟩:∃yy,y*4294967296=yy:=⟨_,rfl⟩;have hyyI:(y:Int)*4294967296=(yy:Int):=(by omega);have hyyl:yy<18446744073709551616:=(by omega);have VZ:q<18446744073709551616:=(by omega);rw[Vd] at Q7;rw[<-Vd,hq] at Q7;rw[Vd] at Q7;rw[show y0+y*2^32=q from hq] at Jc;obtain ⟨p,hp⟩:∃p,q / 2^s=p:=⟨_,rfl⟩;have Yy:(q:Int) / 2^s=(p:Int):=(by rw[<-hp];norm_cast);have R7:p<18446744073709551616:=(by rw[<-hp];exact TS (Xbt _ _) VZ);have B6:=Qrl p R7;rw[hp] at Jc;obtain ⟨lo,i4⟩:∃lo,p%4294967296=lo:=⟨_,rfl⟩;have Qk:lo<4294967296:=(by omega);rw[i4] at B6;rw[show p%2^32=lo from i4] at Jc;have hkt:(k:Int)+(t:Int)<(k:Int)+(m:Int):=(by omega);have J1:∀o nq,Bw w ((wr.drewN nq).alloc o):=fun o nq=>(Q1d hb nq).alloc hb.size o;have Q3:∀o nq,w.heap.size<=((wr.drewN nq).alloc o).heap.size:=fun o nq=>(J1 o nq).size;have QY:∀o nq,Row ((wr.drewN nq).alloc o) w.heap.size 150 1 ao t co (((shr s (32-s) (A.drop k)).take t).map (nv .u32)):=fun o nq=>(I0.drewN nq).alloc o;have HH:=Xh4 Jc QY J1 Q3;clear Jc QY J1 Q3 hb I0 hq Vd hp i4 hdp Ql
       go_wp2_with fail
       go_quiet (first|(refine Calls.quiet_of (hd _ ?_);rfl))
       go_wp2_with (at_builtin;refine Q0o rfl (.tmp 66) (.tmp 73) 85 rfl w _ 150 i0 _ 1 4 Tryz.underlying85 (Xo0 HI) (Xo1 HI) (Xo2 HI) (Xe3 HI) rfl (by decide) w.heap.size ((Xo2 HH) _ _) ((Xe3 HH) _ _) ao t co _ rfl ((Xo1 HH) _ _) ⟨(wr.drewN nq).heap.size,0,none⟩ 1 1 [.int .u32 (lo:Int)] rfl rfl (Q3f (wr.drewN nq) #[.int .u32 (lo:Int)] _ _) (Qag _ _) (t+1) rfl (by omega) (by omega) ?_;intro a3 c3 w3 Z7 X9 G0 T5;have HO:=Xh2 Z7 G0;clear Z7 X9 G0 T5)
       refine ⟨⟨t+1,a3,c3,rfl,by simp only[Xbc,true_and];omega,by omega,?_,(Xe1 HO)⟩,by simp only[intOf];omega⟩;rw[(Xo0 HH),UR];exact (Xo0 HO)
      ·obtain rfl:m=t:=(by omega);have J0:¬(k:Int)+(m:Int)<(k:Int)+(m:Int):=(by omega);have QP:(shr s (32-s) (A.drop k)).length=m:=(by rw[Qkx,Tg];omega);rw[Uw (by omega)] at I0;have hT:=Q5b ao m co _ wr QP I0.cap.1 I0.cap.2 (Row.rdI I0) (Qp0 (Xo1 H) k s WS);rw[Qoz A (Xo1 H) k s (by omega) WS,(Xo0 H),<-(Xe3 H)] at hT;have HT:=Xh2 hT hb;clear hT hb I0 QP
       go_wp2_with (refine (Xo0 HT).mono ?_;rintro e w1 ⟨n',rfl,Zb,hD,rfl⟩;have ZR:=Ub hD;clear hD)
       refine ⟨rfl,.tuple #[.slice ao n' n',.bool lb2],by simp[results,go_sem],ao,n',n',lb2,rfl,ZR.out,(Xe1 HT)⟩
end Go.Proofs.YtidojbkhlenahaaGreatDoor
