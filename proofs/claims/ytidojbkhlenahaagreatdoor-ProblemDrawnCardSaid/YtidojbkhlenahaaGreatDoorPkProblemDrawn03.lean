/- Part 3. No condition. -/
import Derived.Shelf.Spec.TrailingZeros
import Derived.Ground.Names7Prog
import Derived.Lib.ItoaNum
import Derived.Deep.LoopGhost
import Derived.Deep.RegionHeldLaw
import Derived.Deep.DrawnRows
import Derived.Test.YtidojbkhlenahaaGreatDoorPkProblemDrawn02
set_option maxRecDepth 100000
set_option maxHeartbeats 16000000
namespace Go.Proofs.YtidojbkhlenahaaGreatDoor
open Go.RowKit WordsM
theorem Arr.drew {T:TypeId} {K:IntKind} {w:World} {g:Nat} {ls:LN} (h:Arr T K w g ls):Arr T K w.drew g ls:=h
theorem Qiz (a:OA) (n c:Nat) (ls:LN) (z:Nat) (w:World) (h:WordsIn w a n c ls) (hn:n<=100000) (hz:z<=100000000):
 Calls Tryz.prog 218 #[.slice a n c,.int .i64 (z:Int)] w (Qky w (val (2^64) ls / 2^z)):=by
 have hc:=Q1e a n c ls w h;have hT:=fun W (hb:Bw w W)=>(h.step hb).trim;have hv:val (2^64) (trimL ls)=val (2^64) ls:=Q1c ls;have P2:=h.len;have J6:=trim_len ls;obtain ⟨A,hA⟩:∃A,trimL ls=A:=⟨_,rfl⟩;rw[hA] at hc hT hv J6;rw[<-hv];obtain ⟨k,hk⟩:∃k,z / 64=k:=⟨_,rfl⟩;obtain ⟨s,hs⟩:∃s,z%64=s:=⟨_,rfl⟩;have Wa:s<64:=by omega
 have Ks:z=64*k+s:=by omega
 have XY:(z:Int).tdiv 64=(k:Int):=by rw[Int.tdiv_eq_ediv_of_nonneg (by omega)];omega
 have hsI:(z:Int).tmod 64=(s:Int):=by rw[Int.tmod_eq_emod_of_nonneg (by omega)];omega
 have hkI2:(z:Int) / 64=(k:Int):=by omega
 have Yx:(z:Int)%64=(s:Int):=by omega
 have HA:=Ua (hT w (Ud _ _)).low;have HC:=Xh2 hc hT;have HZ:=Ua Ks;clear hc hT hA hv h hk hs Ks
 by_cases WB:A.length<=k
 ·have Zw:(A.length:Int)<=(k:Int):=by omega
  have XX:=Qsc (s:=s) HA.out WB;rw[<-HZ.out] at XX;rw[XX];clear XX
  go_enter Tryz.func218,Tryz.ntmps218
  go_wp2_with (refine (Xo0 HC).mono ?_;rintro e w1 ⟨rfl,C0⟩;have I0:=Ua C0;clear C0)
  go_ret;exact ⟨none,0,0,rfl,⟨⟨rfl,Ue _,Uv _,fun x hx=>by simp[Q14] at hx,.inl rfl⟩,.inr fun _ h=>(by cases h)⟩,I0.out⟩
 ·obtain ⟨m,hm⟩:∃m,A.length=k+m:=⟨A.length-k,by omega⟩;have Zw:¬((A.length:Int)<=(k:Int)):=by omega
  have hmI:(A.length:Int)-(k:Int)=(m:Int):=by omega
  have j4:=Xa2 (P:=Tryz.prog) 24 83 (.int .u64 0) 8 Tryz.underlying24 Q4s rfl .i64 .i64 m (by omega) (by omega);rw[Q2n] at j4;have HM:=Ua hm;clear hm
  go_enter Tryz.func218,Tryz.ntmps218
  go_wp2_with (refine (Xo0 HC).mono ?_;rintro e w1 ⟨rfl,C0⟩;have I0:=Ua C0;clear C0)
  have M2:Bw w1 (w1.alloc (.cells (Array.replicate m (nv .u64 0)) 83)):=Ba;have C9:=Arr.zeros w1 83 .u64 m;have HW:=Ua ((Xe1 HC) w1 I0.out);have H0:=Xh2 M2 C9;clear M2 C9 j4 HC
  go_loopw [26] (fun iv wr=>∃(i:Nat) (L:LN),iv=.int .i64 (i:Int)/\i<=m/\Arr 83 .u64 wr w1.heap.size L/\L.length=m/\(∀j,j<i->L[j]?=(shr s (64-s) (A.drop k))[j]?)/\Bw w1 wr) (fun iv _=>m-(intOf iv).toNat)
  case atStart=>exact ⟨0,List.replicate m 0,rfl,Uv _,(Xe1 H0),by simp,fun j hj=>absurd hj (Tf _),(Xo0 H0)⟩
  case round=>
   obtain ⟨i,L,rfl,hi,hL,F5,R2,Y0⟩:=hrel
   by_cases F0:i<m
   ·have G0:(i:Int)<(m:Int):=(by omega);obtain ⟨x,hx⟩:∃x,A[i+k]?=some x:=⟨_,Ub (by have:=HM.out;omega)⟩;have B4:x<18446744073709551616:=HA.out x (Ug hx);obtain ⟨ba,oa,j5,Q1,Y4⟩:=(HW.out.rd.below Y0).at_ hx;subst j5;have hr:=Qix s (64-s) (A.drop k) i x (by rw[Xaz,Xbf];exact hx);rw[Xaz,show s+(64-s)=64 by omega] at hr;obtain ⟨p,hp⟩:∃p,x / 2^s=p:=⟨_,rfl⟩;have hpI:(x:Int) / 2^s=(p:Int):=(by rw[<-hp];norm_cast);have x7:p<18446744073709551616:=(by rw[<-hp];exact TP (Xbq _ _) B4);obtain ⟨q,hq⟩:∃q,L[i]?=some q:=⟨_,Ub (by omega)⟩;have YV:wr.cell? ⟨w1.heap.size,i,none⟩=some (.int .u64 (q:Int)):=hL.cell hq;have YA:wr.frozen? ⟨w1.heap.size,i,none⟩=false:=hL.frozen _;obtain ⟨t,ht⟩:∃t,64-s=t:=⟨_,rfl⟩;have htI:(64:Int)-(s:Int)=(t:Int):=(by omega);have HH:=Xh5 hr hp hL R2 Y0;clear hr hp hL R2 Y0 hx hq
    by_cases hik:i+k+1<A.length
    ·have hik':(i:Int)+(k:Int)+1<(A.length:Int):=(by omega);obtain ⟨y,hy⟩:∃y,A[i+k+1]?=some y:=⟨_,Ub hik⟩;have QV:=(HW.out.rd.below (Xe4 HH)).at_ hy;obtain ⟨bb,ob,X7,C3,QV⟩:=QV;injection X7 with X7;injection X7 with C0 D0;subst C0 D0;have Qk:y<18446744073709551616:=HA.out y (Ug hy);have HY:=Ua hy;clear hy
     go_wp2_with fail
     have Vq:=(Xo2 HH).set i p;have D0:=(Xe4 HH).setCell (p:=⟨w1.heap.size,i,none⟩) (Ue _) (.int .u64 (p:Int));have hcy2:(wr.setCell ⟨w1.heap.size,i,none⟩ (.int .u64 (p:Int))).cell? ⟨ba,oa+(i+k+1),none⟩=some (.int .u64 (y:Int)):=(UK (UX _ _ _ _ (show ba≠w1.heap.size by omega))).trans QV;have hcp2:(wr.setCell ⟨w1.heap.size,i,none⟩ (.int .u64 (p:Int))).cell? ⟨w1.heap.size,i,none⟩=some (.int .u64 (p:Int)):=Vq.cell (by rw[TI (by omega)]);have U3:(wr.setCell ⟨w1.heap.size,i,none⟩ (.int .u64 (p:Int))).frozen? ⟨w1.heap.size,i,none⟩=false:=Vq.frozen _;generalize wr.setCell ⟨w1.heap.size,i,none⟩ (.int .u64 (p:Int))=W2 at*;obtain ⟨g,hg⟩:∃g,y*2^t%2^64=g:=⟨_,rfl⟩;have hgI:(y:Int)*2^t%18446744073709551616=(g:Int):=(by rw[<-hg,show (2:Nat)^64=18446744073709551616 from rfl,Int.natCast_emod,Int.natCast_mul,Int.natCast_pow];rfl);have Xn:g<18446744073709551616:=(by rw[<-hg];exact TH _ (by decide));obtain ⟨r,hr⟩:∃r,p+g=r:=⟨_,rfl⟩;have U8:bits .or .u64 (p:Int) (g:Int)=(r:Int):=by
      rw[u64_or_nat p g x7 Xn,<-hr,<-(Xo1 HH),<-hg,<-ht];have:=Qx9 (s:=s) (t:=64-s) (x:=x) (y:=y) (by rw[show s+(64-s)=64 by omega];exact B4);rw[show s+(64-s)=64 by omega] at this;rw[this]
     have HS:=Xh4 hg hr Vq D0;clear hg hr Vq D0
     go_region
     go_wp2_with fail
     have P1:=(Xo0 HH);rw[(Xo1 HH),show k+(i+1)=i+k+1 by omega,HY.out,ht,Xa0,(Xo0 HS),(Xo1 HS)] at P1;have I2:bits .or .u64 (p:Int) (IntKind.u64.wrap ((y:Int)*2^t))=(r:Int):=(by rw[IntKind.wrap_u64,hgI,U8]);rw[I2];refine ⟨⟨i+1,(L.set i p).set i r,by simp,by omega,((Xo2 HS).set i r).drew,by simp[F5],?_,((Xe3 HS).setCell (p:=⟨w1.heap.size,i,none⟩) (Ue _) _).drew⟩,by simp only[intOf];omega⟩;rw[List.set_set];rw[<-ht] at P1;exact Qg1 (Xo3 HH) P1 (by omega)
    ·have hik':¬((i:Int)+(k:Int)+1<(A.length:Int)):=by omega
     go_wp2_with fail
     have P1:=(Xo0 HH);rw[(Xo1 HH),show k+(i+1)=i+k+1 by omega,Ta (show A.length<=i+k+1 by omega)] at P1;simp only[Option.getD_none,TQ,Nat.zero_mod,TD] at P1;exact ⟨⟨i+1,L.set i p,by simp,by omega,(Xo2 HH).set i p,by simp[F5],Qg1 (Xo3 HH) P1 (by omega),(Xe4 HH).setCell (p:=⟨w1.heap.size,i,none⟩) (Ue _) _⟩,by simp only[intOf];omega⟩
   ·obtain rfl:i=m:=(by omega);have K8:L=shr s (64-s) (A.drop k):=Qes (fun j hj=>R2 j (by rw[Qiv,Th] at hj;have:=HM.out;omega)) (by rw[Qiv,Th];have:=HM.out;omega);have hW:WordsIn wr (some ⟨w1.heap.size,0,none⟩) i i L:=⟨F5,Ue _,by omega,K8 ▸ Qsb HA.out k s Wa,hL.rd⟩;have G0:¬((i:Int)<(i:Int)):=(by omega);have S7:Bw w wr:=Below.next0 I0.out Y0;have K7:trimL L=dig (2^64) (val (2^64) A / 2^z):=(by rw[Q1r (by decide) hW.low,K8,Qsa A HA.out k s (by omega) Wa,HZ.out]);have HE:=Xh3 hW S7 K7;clear hW S7 K7 K8 hL R2 Y0
    go_wp2_with (refine (Q1e _ _ _ _ _ (Xo0 HE)).mono ?_;rintro e w5 ⟨rfl,P0⟩;have A4:=Ua P0;clear P0)
    go_ret;have M3:=((Xo0 HE).step A4.out).trim;rw[(Xe2 HE)] at M3⊢;exact ⟨_,_,_,rfl,⟨M3,.inr fun x hx=>by injection hx with hx;subst hx;exact I0.out.size⟩,Below.next0 (Xo1 HE) A4.out⟩
end Go.Proofs.YtidojbkhlenahaaGreatDoor
namespace Go.Proofs
open Go.Shelf
def Tryz.J1f:Go.Shelf.Ren:=⟨fun|29=>255|n=>n,fun|22=>83|3=>3|4=>4|25=>149|54=>302|0=>0|5=>5|n=>n,fun|1=>5|n=>n⟩
theorem Tryz.J1g:Go.Proofs.Lays7.n29 Tryz.prog Tryz.J1f:=by repeat' first|kernel_rfl|(intros;kernel_rfl)|decide|constructor
open Go.RowKit in
theorem Tryz.J1h (x:Nat) (hx:x<18446744073709551616) (w:World) (hT:x≠0->TabAt 5 Lib.deBruijn64tab w):
 Calls Tryz.prog 255 #[.int .u64 x] w fun e w'=>e=.returned (.int .i64 (Lib.ctz 64 x))/\w'=w:=Any7.bits_TrailingZeros64 Tryz.J1g x hx w hT
end Go.Proofs
namespace Go.Proofs.YtidojbkhlenahaaGreatDoor
open Go.RowKit WordsM
theorem Qv8 {ls:LN} {i x k m:Nat} (h0:val (2^64) (ls.take i)=0) (hx:ls[i]?=some x) (he:x=2^k*(2*m+1)) (hk:k<64):Qkv (val (2^64) ls) (64*i+k):=by
 have hi:i<ls.length:=(Uh.1 hx).1;have WR:ls[i]=x:=(Uh.1 hx).2;have h1:=Q3u (B:=2^64) ls i;rw[h0,UH,UQ hi,WR] at h1;simp only[val] at h1;obtain ⟨V,hV⟩:∃V,val (2^64) (ls.drop (i+1))=V:=⟨_,rfl⟩;rw[hV] at h1;obtain ⟨t,ht⟩:∃t,64=k+(t+1):=⟨63-k,by omega⟩;have e1:x+2^64*V=2^k*(2*(m+2^t*V)+1):=by
  rw[he,show (2:Nat)^64=2^k*(2^t*2) by rw[<-Tb,<-To,<-ht],UJ,<-Tt]
  congr 1
  rw[UB (2^t) 2,UJ,Tt];omega
 rw[e1,<-TW,<-UJ,<-To] at h1;rw[h1];have hp:0<2^(64*i+k):=Tn (by decide);exact ⟨Nat.mul_mod_right _ _,by rw[Nat.mul_div_cancel_left _ hp];omega⟩
def Q3r (w:World):Prop:=5<w.heap.size/\TabAt 5 Lib.deBruijn64tab w
theorem Q3r.step {w w':World} (h:Q3r w) (hb:Bw w w'):Q3r w':=⟨Uc h.1 hb.size,fun j hj=>(hb.cell (p:=⟨_,j,none⟩) h.1).trans (h.2 j hj)⟩
theorem Qg4 (a:OA) (n c:Nat) (ls:LN) (w:World) (h:WordsIn w a n c ls) (hT:Q3r w) (hn:n<=1000000) (h0:val (2^64) ls≠0):
 Calls Tryz.prog 222 #[.slice a n c] w fun e w'=>(∃z:Nat,e=.returned (.int .i64 (z:Int))/\Qkv (val (2^64) ls) z/\z<64*n)/\Bw w w':=by
 have P2:=h.len;have H:=Xh3 h hT h0;clear h hT h0
 go_enter Tryz.func222,Tryz.ntmps222
 go_wp2_with fail
 go_loopw [7] (fun v wr=>∃i:Nat,v=.int .i64 (i:Int)/\i<=n/\val (2^64) (ls.take i)=0/\Bw w wr) (fun v _=>n-(intOf v).toNat)
 case atStart=>exact ⟨0,rfl,Uv _,by simp[val],Ud _ _⟩
 case round=>
  obtain ⟨i,rfl,hi,hv,hb⟩:=hrel
  by_cases F0:i<n
  ·have G0:(i:Int)<(n:Int):=(by omega);obtain ⟨x,hx⟩:∃x,ls[i]?=some x:=⟨_,Ub (by omega)⟩;have B4:x<18446744073709551616:=(Xo0 H).low x (Ug hx);obtain ⟨g1,o1,j5,O5,Y4⟩:=((Xo0 H).rd.below hb).at_ hx;subst j5;have HH:=Xh3 hv hb hx;clear hv hb hx
   by_cases Y5:x=0
   ·subst Y5
    go_wp2_with fail
    refine ⟨⟨i+1,by simp,by omega,?_,(Xo1 HH)⟩,by simp only[intOf];omega⟩;rw[Q1i ls i 0 (Xe2 HH),(Xo0 HH),Nat.mul_zero]
   ·have hx0':((x:Int)==0)=false:=(by rw[Uk];omega);have hctz:=fun W (hb:Bw w W)=>(Tryz.J1h x B4 W (fun _=>((Xo1 H).step hb).2)).mono (R':=fun e w'=>e=.returned (.int .i64 (Lib.ctz 64 x))/\W=w') (by rintro e w' ⟨h1,h2⟩;exact ⟨h1,h2.symm⟩);obtain ⟨m,hm,hk⟩:=Lib.ctzFrom_spec 64 x (by omega) B4;have hce:Lib.ctz 64 x=Lib.ctzFrom 64 x:=(by unfold Lib.ctz;rw[Uq Y5]);rw[<-hce] at hm hk;obtain ⟨k,hkk⟩:∃k,Lib.ctz 64 x=k:=⟨_,rfl⟩;rw[hkk] at hm hk;rw[hkk] at hctz;have HZ:=Xh2 hm hctz;clear hctz hm hce hkk
    go_wp2_with (refine ((Xe1 HZ) _ (Xo1 HH)).mono ?_;rintro e w5 ⟨rfl,rfl⟩)
    go_ret;exact ⟨⟨64*i+k,rfl,Qv8 (Xo0 HH) (Xe2 HH) (Xo0 HZ) hk,by omega⟩,(Xo1 HH)⟩
  ·exact absurd (by rw[Uw (by omega)] at hv;exact hv) (Xe2 H)
end Go.Proofs.YtidojbkhlenahaaGreatDoor
namespace Go.Proofs.YtidojbkhlenahaaGreatDoor
open Go.RowKit
structure Q03 (w:World) (b:Nat) (v0 v1 v2:Value):Prop where
 c0:w.cell? ⟨b,0,none⟩=some v0
 c1:w.cell? ⟨b,1,none⟩=some v1
 c2:w.cell? ⟨b,2,none⟩=some v2
 f0:w.frozen? ⟨b,0,none⟩=false
 f1:w.frozen? ⟨b,1,none⟩=false
 f2:w.frozen? ⟨b,2,none⟩=false
theorem Q03.cc {w:World} {b:Nat} {v0 v1 v2:Value} (h:Q03 w b v0 v1 v2):w.cell? ⟨b,0,none⟩=some v0/\w.cell? ⟨b,1,none⟩=some v1/\w.cell? ⟨b,2,none⟩=some v2:=⟨h.c0,h.c1,h.c2⟩
theorem Q03.cf {w:World} {b:Nat} {v0 v1 v2:Value} (h:Q03 w b v0 v1 v2):w.cell? ⟨b,0,none⟩=some v0/\w.cell? ⟨b,1,none⟩=some v1/\w.cell? ⟨b,2,none⟩=some v2/\w.frozen? ⟨b,0,none⟩=false/\w.frozen? ⟨b,1,none⟩=false/\w.frozen? ⟨b,2,none⟩=false:=⟨h.c0,h.c1,h.c2,h.f0,h.f1,h.f2⟩
theorem Q03.new (w:World) (v0 v1 v2:Value) (T:TypeId):Q03 (w.alloc (.cells #[v0,v1,v2] T)) w.heap.size v0 v1 v2:=
 ⟨by rw[UL _ _ _ _ _ _ (Up _ _)];rfl,by rw[UL _ _ _ _ _ _ (Up _ _)];rfl,by rw[UL _ _ _ _ _ _ (Up _ _)];rfl,
   Tx _ _ _ _ _ (Up _ _),Tx _ _ _ _ _ (Up _ _),Tx _ _ _ _ _ (Up _ _)⟩
theorem Q0o (w:World) (o:Obj):w.heap.size<(w.alloc o).heap.size:=by rw[Ur];omega
theorem Q03.step {w w':World} {b B:Nat} {v0 v1 v2:Value} (h:Q03 w b v0 v1 v2) (hb:Below B w w') (hB:b<B):Q03 w' b v0 v1 v2:=
 ⟨(hb.cell (p:=⟨b,0,none⟩) hB).trans h.c0,(hb.cell (p:=⟨b,1,none⟩) hB).trans h.c1,(hb.cell (p:=⟨b,2,none⟩) hB).trans h.c2,(hb.frozen (p:=⟨b,0,none⟩) hB).trans h.f0,(hb.frozen (p:=⟨b,1,none⟩) hB).trans h.f1,(hb.frozen (p:=⟨b,2,none⟩) hB).trans h.f2⟩
theorem Q03.d1 {w:World} {b:Nat} {v0 v1 v2:Value} (h:Q03 w b v0 v1 v2) (u0:Value):(w.setCell ⟨b,0,none⟩ u0).cell? ⟨b,1,none⟩=some v1:=(Uf _ _ _ _ (by simp)).trans h.c1
theorem Q03.d2 {w:World} {b:Nat} {v0 v1 v2:Value} (h:Q03 w b v0 v1 v2) (u0 u1:Value):((w.setCell ⟨b,0,none⟩ u0).setCell ⟨b,1,none⟩ u1).cell? ⟨b,2,none⟩=some v2:=(Uf _ _ _ _ (by simp)).trans ((Uf _ _ _ _ (by simp)).trans h.c2)
theorem Q03.store {w:World} {b:Nat} {v0 v1 v2:Value} (h:Q03 w b v0 v1 v2) (u0 u1 u2:Value):Q03 (((w.setCell ⟨b,0,none⟩ u0).setCell ⟨b,1,none⟩ u1).setCell ⟨b,2,none⟩ u2) b u0 u1 u2:=
 ⟨(Uf _ _ _ _ (by simp)).trans ((Uf _ _ _ _ (by simp)).trans (UF _ _ _ (by rw[h.c0];rfl))),(Uf _ _ _ _ (by simp)).trans (UF _ _ _ (by rw[h.d1];rfl)),UF _ _ _ (by rw[h.d2];rfl),by simp[h.f0],by simp[h.f1],by simp[h.f2]⟩
theorem Q03.below {w w0:World} {b B:Nat} (hb:Below B w0 w) (hB:B<=b) (u0 u1 u2:Value):Below B w0 (((w.setCell ⟨b,0,none⟩ u0).setCell ⟨b,1,none⟩ u1).setCell ⟨b,2,none⟩ u2):=
 ((hb.setCell (p:=⟨b,0,none⟩) hB _).setCell (p:=⟨b,1,none⟩) hB _).setCell (p:=⟨b,2,none⟩) hB _
theorem RdI.store3 {K:IntKind} {w:World} {B b:Nat} {a:OA} {ls:LN} {v0 v1 v2:Value} (h:RdI K w B a ls) (hN:Q03 w b v0 v1 v2) (h0:∀x:Nat,v0≠nv K x) (h1:∀x:Nat,v1≠nv K x) (h2:∀x:Nat,v2≠nv K x) (u0 u1 u2:Value):
 RdI K (((w.setCell ⟨b,0,none⟩ u0).setCell ⟨b,1,none⟩ u1).setCell ⟨b,2,none⟩ u2) B a ls:=by
 rcases h with rfl|⟨g,o,rfl,hg,hc⟩
 ·exact .inl rfl
 ·refine .inr ⟨g,o,rfl,hg,fun j x hx=>?_⟩;have Y4:=hc j x hx;have key:∀(i:Nat) (v:Value),w.cell? ⟨b,i,none⟩=some v->(∀x:Nat,v≠nv K x)->(⟨g,o+j,none⟩:Addr)≠⟨b,i,none⟩:=fun i v hv C1 e=>by
   rw[e,hv] at Y4;injection Y4 with Y4;exact C1 x Y4
  exact (Uf _ _ _ _ (key 2 v2 hN.c2 h2).symm).trans ((Uf _ _ _ _ (key 1 v1 hN.c1 h1).symm).trans ((Uf _ _ _ _ (key 0 v0 hN.c0 h0).symm).trans Y4))
theorem Q1s (w:World) (b:Nat) (u0 u1 u2:Value):w.heap.size<=(((w.setCell ⟨b,0,none⟩ u0).setCell ⟨b,1,none⟩ u1).setCell ⟨b,2,none⟩ u2).heap.size:=(Q03.below (Ud b w) (Ue b) u0 u1 u2).size
theorem Q89 (w:World) (x0 x1 x2 r0 r1 r2:Value) (T1 T3:TypeId):
 ((w.alloc (.cells #[x0,x1,x2] T1)).alloc (.cells #[r0,r1,r2] T3)).heap.size=w.heap.size+2/\Q03 ((w.alloc (.cells #[x0,x1,x2] T1)).alloc (.cells #[r0,r1,r2] T3)) w.heap.size x0 x1 x2/\Q03 ((w.alloc (.cells #[x0,x1,x2] T1)).alloc (.cells #[r0,r1,r2] T3)) (w.heap.size+1) r0 r1 r2/\Bw w ((w.alloc (.cells #[x0,x1,x2] T1)).alloc (.cells #[r0,r1,r2] T3)):=by
 have B5:(w.alloc (.cells #[x0,x1,x2] T1)).heap.size=w.heap.size+1:=Ur _ _;have C0:Bw w (w.alloc (.cells #[x0,x1,x2] T1)):=Ba;have D0:Below (w.alloc (.cells #[x0,x1,x2] T1)).heap.size (w.alloc (.cells #[x0,x1,x2] T1)) ((w.alloc (.cells #[x0,x1,x2] T1)).alloc (.cells #[r0,r1,r2] T3)):=Ba;refine ⟨by rw[Ur,B5],(Q03.new w _ _ _ _).step D0 (Q0o _ _),?_,Below.next0 C0 D0⟩;have h:=Q03.new (w.alloc (.cells #[x0,x1,x2] T1)) r0 r1 r2 T3;rwa[B5] at h
theorem Qom (w:World) (x0 x1 x2 y0 y1 y2 r0 r1 r2:Value) (T1 T2 T3:TypeId):
 (((w.alloc (.cells #[x0,x1,x2] T1)).alloc (.cells #[y0,y1,y2] T2)).alloc (.cells #[r0,r1,r2] T3)).heap.size=w.heap.size+3/\Q03 (((w.alloc (.cells #[x0,x1,x2] T1)).alloc (.cells #[y0,y1,y2] T2)).alloc (.cells #[r0,r1,r2] T3)) w.heap.size x0 x1 x2/\Q03 (((w.alloc (.cells #[x0,x1,x2] T1)).alloc (.cells #[y0,y1,y2] T2)).alloc (.cells #[r0,r1,r2] T3)) (w.heap.size+1) y0 y1 y2/\
   Q03 (((w.alloc (.cells #[x0,x1,x2] T1)).alloc (.cells #[y0,y1,y2] T2)).alloc (.cells #[r0,r1,r2] T3)) (w.heap.size+2) r0 r1 r2/\Bw w (((w.alloc (.cells #[x0,x1,x2] T1)).alloc (.cells #[y0,y1,y2] T2)).alloc (.cells #[r0,r1,r2] T3)):=by
 obtain ⟨h1,h2,h3,h4⟩:=Q89 w x0 x1 x2 y0 y1 y2 T1 T2;generalize (w.alloc (.cells #[x0,x1,x2] T1)).alloc (.cells #[y0,y1,y2] T2)=W at*;have hb:Bw W (W.alloc (.cells #[r0,r1,r2] T3)):=Ba;have h:=Q03.new W r0 r1 r2 T3;rw[h1] at h;exact ⟨by rw[Ur,h1],h2.step hb (by omega),h3.step hb (by omega),h,Below.next0 h4 hb⟩
theorem Q78 {w0 w:World} {b B:Nat} {v0 v1 v2:Value} (h:Q03 w b v0 v1 v2) (hb:Below B w0 w) (hB:B<=b) (u0 u1 u2:Value):(((w.setCell ⟨b,0,none⟩ u0).setCell ⟨b,1,none⟩ u1).setCell ⟨b,2,none⟩ u2).cell? ⟨b,0,none⟩=some u0/\(((w.setCell ⟨b,0,none⟩ u0).setCell ⟨b,1,none⟩ u1).setCell ⟨b,2,none⟩ u2).cell? ⟨b,1,none⟩=some u1/\(((w.setCell ⟨b,0,none⟩ u0).setCell ⟨b,1,none⟩ u1).setCell ⟨b,2,none⟩ u2).cell? ⟨b,2,none⟩=some u2/\Below B w0 (((w.setCell ⟨b,0,none⟩ u0).setCell ⟨b,1,none⟩ u1).setCell ⟨b,2,none⟩ u2):=
 ⟨(h.store u0 u1 u2).c0,(h.store u0 u1 u2).c1,(h.store u0 u1 u2).c2,Q03.below hb hB u0 u1 u2⟩
open WordsM
def Q79 (neg:Bool) (v:Nat) (exp:Int) (neg':Bool) (exp':Int) (L:LN) (er:Int):Prop:=
 (v=0/\neg'=false/\exp'=0/\L=[]/\er=0)∨∃z:Nat,Qkv v z/\
   (((65536<exp∨exp< -65536-(z:Int)∨¬Q0a neg (exp+z) (dig (2^64) (v / 2^z)))/\neg'=false/\exp'=0/\L=[]/\er=2)∨
    (exp<=65536/\-65536-(z:Int)<=exp/\Q0a neg (exp+z) (dig (2^64) (v / 2^z))/\neg'=neg/\exp'=exp+z/\L=dig (2^64) (v / 2^z)/\er=0))
theorem Q6f (neg:Bool) (a:OA) (n c:Nat) (ls:LN) (exp:Int) (w:World) (h:WordsIn w a n c ls) (hT:Q3r w) (hn:n<=100000) (he: -1000000000<=exp) (Q5:exp<=1000000000):
 Calls Tryz.prog 165 #[.bool neg,.slice a n c,.int .i64 exp] w fun e w'=>∃neg' exp' a' n' c' L er,e=.returned (.tuple #[.agg #[.bool neg',.int .i64 exp',.slice a' n' c'],.int .i64 er])/\Q79 neg (val (2^64) ls) exp neg' exp' L er/\Q44 w w' a' n' c' L/\Bw w w':=by
 have Wg:=fun W (hb:Bw w W)=>Qkx a n c ls W (h.step hb) (by omega);have M2:∀o,Bw w (w.alloc o):=fun o=>Ba
 by_cases h0:val (2^64) ls=0
 ·have HB:=Xh2 Wg h0;clear Wg h0 h hT he Q5
  go_enter Tryz.func165,Tryz.ntmps165
  go_upto_if 12 with (go_at_call_of 145 a;refine ((Xo0 HB) _ (M2 _)).mono ?_;rintro e w1 ⟨⟨k,rfl,hk⟩,C0⟩;obtain rfl:k=0:=hk.2 (Xe1 HB);have I0:=Ua C0;clear C0)
  have hx:=Qbm w false 0 none 0 0 26;have hf:∀i,w1.frozen? ⟨w.heap.size,i,none⟩=false:=fun i=>(I0.out.frozen (p:=⟨w.heap.size,i,none⟩) hx.1).trans (Tx _ _ _ _ _ (Up _ _));have E4:w1.cell? ⟨w.heap.size,0,none⟩=some (.bool false):=(I0.out.cell (p:=⟨w.heap.size,0,none⟩) hx.1).trans hx.2.1;have J1:w1.cell? ⟨w.heap.size,1,none⟩=some (.int .i64 0):=(I0.out.cell (p:=⟨w.heap.size,1,none⟩) hx.1).trans hx.2.2.1;have I1:w1.cell? ⟨w.heap.size,2,none⟩=some (.slice none 0 0):=(I0.out.cell (p:=⟨w.heap.size,2,none⟩) hx.1).trans hx.2.2.2;have U4:=hf 0;have j3:=hf 1;have U3:=hf 2;have D3:(w1.setCell ⟨w.heap.size,0,none⟩ (.bool false)).cell? ⟨w.heap.size,1,none⟩=some (.int .i64 0):=(Uf _ _ _ _ (by simp)).trans J1;have Z2:((w1.setCell ⟨w.heap.size,0,none⟩ (.bool false)).setCell ⟨w.heap.size,1,none⟩ (.int .i64 0)).cell? ⟨w.heap.size,2,none⟩=some (.slice none 0 0):=(Uf _ _ _ _ (by simp)).trans ((Uf _ _ _ _ (by simp)).trans I1);clear hf hx
  go_wp2_with fail
  have M0:Bw w (((w1.setCell ⟨w.heap.size,0,none⟩ (.bool false)).setCell ⟨w.heap.size,1,none⟩ (.int .i64 0)).setCell ⟨w.heap.size,2,none⟩ (.slice none 0 0)):=(((Below.next0 (M2 _) I0.out).setCell (p:=⟨w.heap.size,0,none⟩) (Ue _) _).setCell (p:=⟨w.heap.size,1,none⟩) (Ue _) _).setCell (p:=⟨w.heap.size,2,none⟩) (Ue _) _;have k0:(((w1.setCell ⟨w.heap.size,0,none⟩ (.bool false)).setCell ⟨w.heap.size,1,none⟩ (.int .i64 0)).setCell ⟨w.heap.size,2,none⟩ (.slice none 0 0)).cell? ⟨w.heap.size,0,none⟩=some (.bool false):=(Uf _ _ _ _ (by simp)).trans ((Uf _ _ _ _ (by simp)).trans (UF _ _ _ (by rw[E4];rfl)));have k1:(((w1.setCell ⟨w.heap.size,0,none⟩ (.bool false)).setCell ⟨w.heap.size,1,none⟩ (.int .i64 0)).setCell ⟨w.heap.size,2,none⟩ (.slice none 0 0)).cell? ⟨w.heap.size,1,none⟩=some (.int .i64 0):=(Uf _ _ _ _ (by simp)).trans (UF _ _ _ (by rw[D3];rfl));have k2:(((w1.setCell ⟨w.heap.size,0,none⟩ (.bool false)).setCell ⟨w.heap.size,1,none⟩ (.int .i64 0)).setCell ⟨w.heap.size,2,none⟩ (.slice none 0 0)).cell? ⟨w.heap.size,2,none⟩=some (.slice none 0 0):=UF _ _ _ (by rw[Z2];rfl);generalize (((w1.setCell ⟨w.heap.size,0,none⟩ (.bool false)).setCell ⟨w.heap.size,1,none⟩ (.int .i64 0)).setCell ⟨w.heap.size,2,none⟩ (.slice none 0 0))=W3 at*;refine ⟨rfl,.tuple #[.agg #[.bool false,.int .i64 0,.slice none 0 0],.int .i64 0],by simp[results,go_sem,k0,k1,k2],false,0,none,0,0,[],0,rfl,.inl ⟨(Xe1 HB),rfl,rfl,rfl,rfl⟩,Q44.nil_ _ _,M0⟩
 ·have hzr:=fun W (hb:Bw w W)=>Qg4 a n c ls W (h.step hb) (hT.step hb) (by omega) h0;have hdn:=fun W (hb:Bw w W) z hz=>Qiz a n c ls z W (h.step hb) hn hz;have HB:=Xh4 Wg hzr hdn h0;clear Wg hzr hdn h0 h hT
  by_cases K5:65536<exp
  ·go_enter Tryz.func165,Tryz.ntmps165
   go_upto_if 12 with (go_at_call_of 145 a;refine ((Xo0 HB) _ (M2 _)).mono ?_;rintro e w1 ⟨⟨k,rfl,hk⟩,C0⟩;have Xa:((k:Int)==0)=false:=by { rw[Uk];intro e;exact (Xe3 HB) (hk.1 (by omega)) };have I0:=Ua C0;clear C0 hk)
   go_upto_if 23 with (go_at_call_of 222 a;refine ((Xo1 HB) _ (Below.next0 (M2 _) I0.out)).mono ?_;rintro e w2 ⟨⟨z,rfl,hz,j8⟩,D0⟩;have E1:=Xh3 hz j8 D0;clear D0 hz j8)
   have O2:=(Qbm w false 0 none 0 0 26).1;have hN:=((Q03.new w (.bool false) (.int .i64 0) (.slice none 0 0) 26).step I0.out O2).step (Xe2 E1) (Uc O2 I0.out.size);have Y0:Bw w w2:=Below.next0 (Below.next0 (M2 _) I0.out) (Xe2 E1);have hS:=hN.store (.bool false) (.int .i64 0) (.slice none 0 0);have hL:=Q03.below Y0 (Ue _) (.bool false) (.int .i64 0) (.slice none 0 0);have HS:=Xh2 hS hL;obtain ⟨E4,J1,I1,U4,j3,U3⟩:=hN.cf;have D3:=hN.d1 (.bool false);have Z2:=hN.d2 (.bool false) (.int .i64 0);clear hN Y0 hS hL O2
   go_wp2_with fail
   have k0:=(Xo0 HS).c0;have k1:=(Xo0 HS).c1;have k2:=(Xo0 HS).c2;have M0:=(Xe1 HS);clear HS D3 Z2;generalize (((w2.setCell ⟨w.heap.size,0,none⟩ (.bool false)).setCell ⟨w.heap.size,1,none⟩ (.int .i64 0)).setCell ⟨w.heap.size,2,none⟩ (.slice none 0 0))=W3 at*;refine ⟨rfl,.tuple #[.agg #[.bool false,.int .i64 0,.slice none 0 0],.int .i64 2],by simp[results,go_sem,k0,k1,k2],false,0,none,0,0,[],2,rfl,.inr ⟨z,(Xo0 E1),.inl ⟨.inl K5,rfl,rfl,rfl,rfl⟩⟩,Q44.nil_ _ _,M0⟩
  ·go_enter Tryz.func165,Tryz.ntmps165
   go_upto_if 12 with (go_at_call_of 145 a;refine ((Xo0 HB) _ (M2 _)).mono ?_;rintro e w1 ⟨⟨k,rfl,hk⟩,C0⟩;have Xa:((k:Int)==0)=false:=by { rw[Uk];intro e;exact (Xe3 HB) (hk.1 (by omega)) };have I0:=Ua C0;clear C0 hk)
   go_upto_if 23 with (go_at_call_of 222 a;refine ((Xo1 HB) _ (Below.next0 (M2 _) I0.out)).mono ?_;rintro e w2 ⟨⟨z,rfl,hz,j8⟩,D0⟩;have E1:=Xh3 hz j8 D0;clear D0 hz j8)
   obtain ⟨y,hy⟩:∃y:Int,-65536-(z:Int)=y:=⟨_,rfl⟩;have hzw:wrap64 (-65536-(z:Int))=y:=(by have:=(Xo1 E1);rw[<-hy];unfold wrap64;omega);have HY:=Ua hy;clear hy
   by_cases Z3:exp<y
   ·have hx1':exp<=65536:=(by omega);have O2:=(Qbm w false 0 none 0 0 26).1;have hN:=((Q03.new w (.bool false) (.int .i64 0) (.slice none 0 0) 26).step I0.out O2).step (Xe2 E1) (Uc O2 I0.out.size);have Y0:Bw w w2:=Below.next0 (Below.next0 (M2 _) I0.out) (Xe2 E1);have hS:=hN.store (.bool false) (.int .i64 0) (.slice none 0 0);have hL:=Q03.below Y0 (Ue _) (.bool false) (.int .i64 0) (.slice none 0 0);have HS:=Xh2 hS hL;obtain ⟨E4,J1,I1,U4,j3,U3⟩:=hN.cf;have D3:=hN.d1 (.bool false);have Z2:=hN.d2 (.bool false) (.int .i64 0);clear hN Y0 hS hL O2
    go_wp2_with fail
    have k0:=(Xo0 HS).c0;have k1:=(Xo0 HS).c1;have k2:=(Xo0 HS).c2;have M0:=(Xe1 HS);clear HS D3 Z2 hzw hx1';generalize (((w2.setCell ⟨w.heap.size,0,none⟩ (.bool false)).setCell ⟨w.heap.size,1,none⟩ (.int .i64 0)).setCell ⟨w.heap.size,2,none⟩ (.slice none 0 0))=W3 at k0 k1 k2 M0⊢;refine ⟨rfl,.tuple #[.agg #[.bool false,.int .i64 0,.slice none 0 0],.int .i64 2],by simp[results,go_sem,k0,k1,k2],false,0,none,0,0,[],2,rfl,.inr ⟨z,(Xo0 E1),.inl ⟨.inr (.inl (by rw[HY.out];exact Z3)),rfl,rfl,rfl,rfl⟩⟩,Q44.nil_ _ _,M0⟩
   ·have hx2':y<=exp:=(by omega);have j8:(z:Nat)<=100000000:=(by have:=(Xo1 E1);omega);have Y0:Bw w w2:=Below.next0 (Below.next0 (M2 _) I0.out) (Xe2 E1);have HDN:=Xh2 ((Xo2 HB) w2 Y0 z j8) Y0;clear Y0 j8;have O2:=Q0o w (.cells #[.bool false,.int .i64 0,.slice none 0 0] 26);have hN:=((Q03.new w (.bool false) (.int .i64 0) (.slice none 0 0) 26).step I0.out O2).step (Xe2 E1) (Uc O2 I0.out.size);have HN:=Xh2 hN (Uc (Uc O2 I0.out.size) (Xe2 E1).size);clear hN O2;have he3: -9223372036854775808<=exp+(z:Int):=(by omega);have he4:exp+(z:Int)<=9223372036854775807:=by have:=(Xo1 E1);omega
    by_cases K1:Q0a neg (exp+(z:Int)) (dig (2^64) (val (2^64) ls / 2^z))
    ·have D4:=UW K1;have HNU:=Ua K1;clear K1
     go_wp2_with (first
      |(go_at_call_of 218 a;refine (Xo0 HDN).mono ?_;rintro e w3 ⟨a',n',c',rfl,hW,M0⟩;have Vs:=Ua (hW.lower (Xe1 HDN).size).new;have B3:=Xh2 hW.toWordsIn M0;clear hW M0)
      |(refine (Q1j neg (exp+(z:Int)) a' n' c' _ _ ((Xo0 B3).step (Ba)) he3 he4 (by have:=(Xo0 B3).cap;have:=(Xo0 B3).most;omega)).mono ?_;rintro r w4 ⟨hr,Y2⟩;rw[D4] at hr;subst hr;
        have VG:=(Below.next0 (Below.next0 (Xe1 B3) ((Ud _ _).alloc (Ue _) (.cells #[.bool neg,.int .i64 (exp+(z:Int)),.slice a' n' c'] 26))) Y2);have Qq:=(Xo0 HN).step VG (Xe1 HN);have JM:=(Q03.new w3 (.bool neg) (.int .i64 (exp+(z:Int))) (.slice a' n' c') 26).step Y2 (Q0o _ _);obtain ⟨E4,J1,I1,U4,j3,U3⟩:=Qq.cf;have D3:=Qq.d1 (.bool neg);have Z2:=Qq.d2 (.bool neg) (.int .i64 (exp+(z:Int)));obtain ⟨J8,O5,Q2⟩:=JM.cc;have O4:=Xh3 Qq (Below.next0 (Xe1 HDN) VG) (((Xo0 B3).step ((Ud _ _).alloc (Ue _) (.cells #[.bool neg,.int .i64 (exp+(z:Int)),.slice a' n' c'] 26))).step Y2);clear Qq JM VG Y2))
     have hS:=(Xo0 O4).store (.bool neg) (.int .i64 (exp+(z:Int))) (.slice a' n' c');obtain ⟨k0,k1,k2⟩:=hS.cc;have P0:=Q03.below (Xo1 O4) (Ue _) (.bool neg) (.int .i64 (exp+(z:Int))) (.slice a' n' c');have O7:WordsIn _ a' n' c' (dig (2^64) (val (2^64) ls / 2^z)):=⟨(Xe2 O4).len,(Xe2 O4).cap,(Xe2 O4).most,(Xe2 O4).low,((Xe2 O4).rd.store3 (Xo0 O4) (fun _=>by simp[nv]) (fun _=>by simp[nv]) (fun _=>by simp[nv]) (.bool neg) (.int .i64 (exp+(z:Int))) (.slice a' n' c')).more (Q1s _ _ _ _ _)⟩;clear hS E4 J1 I1 U4 j3 U3 D3 Z2 J8 O5 Q2 hzw;generalize World.setCell _ _ _=W5 at k0 k1 k2 P0 O7⊢;refine ⟨rfl,.tuple #[.agg #[.bool neg,.int .i64 (exp+(z:Int)),.slice a' n' c'],.int .i64 0],by simp[results,go_sem,k0,k1,k2],neg,exp+(z:Int),a',n',c',_,0,rfl,.inr ⟨z,(Xo0 E1),.inr ⟨K5,by rw[HY.out];exact hx2',HNU.out,rfl,rfl,rfl,rfl⟩⟩,⟨O7,Vs.out⟩,P0⟩
    ·have D4:=UU K1;have HNU:=Ua K1;clear K1
     go_wp2_with (first
      |(go_at_call_of 218 a;refine (Xo0 HDN).mono ?_;rintro e w3 ⟨a',n',c',rfl,hW,M0⟩;have Vs:=Ua (hW.lower (Xe1 HDN).size).new;have B3:=Xh2 hW.toWordsIn M0;clear hW M0)
      |(refine (Q1j neg (exp+(z:Int)) a' n' c' _ _ ((Xo0 B3).step (Ba)) he3 he4 (by have:=(Xo0 B3).cap;have:=(Xo0 B3).most;omega)).mono ?_;rintro r w4 ⟨hr,Y2⟩;rw[D4] at hr;subst hr;
        have VG:=(Below.next0 (Below.next0 (Xe1 B3) ((Ud _ _).alloc (Ue _) (.cells #[.bool neg,.int .i64 (exp+(z:Int)),.slice a' n' c'] 26))) Y2);have Qq:=(Xo0 HN).step VG (Xe1 HN);have JM:=(Q03.new w3 (.bool neg) (.int .i64 (exp+(z:Int))) (.slice a' n' c') 26).step Y2 (Q0o _ _);obtain ⟨E4,J1,I1,U4,j3,U3⟩:=Qq.cf;have D3:=Qq.d1 (.bool false);have Z2:=Qq.d2 (.bool false) (.int .i64 0);obtain ⟨J8,O5,Q2⟩:=JM.cc;have O4:=Xh3 Qq (Below.next0 (Xe1 HDN) VG) (((Xo0 B3).step ((Ud _ _).alloc (Ue _) (.cells #[.bool neg,.int .i64 (exp+(z:Int)),.slice a' n' c'] 26))).step Y2);clear Qq JM VG Y2))
     have hS:=(Xo0 O4).store (.bool false) (.int .i64 0) (.slice none 0 0);obtain ⟨k0,k1,k2⟩:=hS.cc;have P0:=Q03.below (Xo1 O4) (Ue _) (.bool false) (.int .i64 0) (.slice none 0 0);have O7:WordsIn _ a' n' c' (dig (2^64) (val (2^64) ls / 2^z)):=⟨(Xe2 O4).len,(Xe2 O4).cap,(Xe2 O4).most,(Xe2 O4).low,((Xe2 O4).rd.store3 (Xo0 O4) (fun _=>by simp[nv]) (fun _=>by simp[nv]) (fun _=>by simp[nv]) (.bool false) (.int .i64 0) (.slice none 0 0)).more (Q1s _ _ _ _ _)⟩;clear hS E4 J1 I1 U4 j3 U3 D3 Z2 J8 O5 Q2 hzw;generalize World.setCell _ _ _=W5 at k0 k1 k2 P0 O7⊢;refine ⟨rfl,.tuple #[.agg #[.bool false,.int .i64 0,.slice none 0 0],.int .i64 2],by simp[results,go_sem,k0,k1,k2],false,0,none,0,0,[],2,rfl,.inr ⟨z,(Xo0 E1),.inl ⟨.inr (.inr HNU.out),rfl,rfl,rfl,rfl⟩⟩,Q44.nil_ _ _,P0⟩
end Go.Proofs.YtidojbkhlenahaaGreatDoor
namespace Go.Proofs.YtidojbkhlenahaaGreatDoor
namespace NatM
abbrev Q4q:Nat:=4294967296
def val:LN->Nat
 |[]=>0
 |m::r=>m+Q4q*val r
def trimL:LN->LN
 |[]=>[]
 |m::r=>match trimL r with
  |[]=>if m=0 then [] else [m]
  |x::y=>m::x::y
def small (l:LN):Prop:=∀m∈l,m<Q4q
theorem Q1c:∀l:LN,val (trimL l)=val l
 |[]=>rfl
 |m::r=>by
  have ih:=Q1c r;simp only[trimL,val]
  split
  ·rename_i h;rw[h] at ih
   split
   ·rename_i h0;rw[h0,<-ih];rfl
   ·rw[<-ih];rfl
  ·rename_i x y h;rw[h] at ih;simp only[val] at ih⊢;rw[ih]
theorem trim_snoc_zero:∀l:LN,trimL (l++[0])=trimL l
 |[]=>rfl
 |m::r=>by
  have ih:=trim_snoc_zero r;simp only[Xab,trimL,ih]
theorem trim_snoc (m:Nat) (hm:m≠0):∀l:LN,trimL (l++[m])=l++[m]
 |[]=>by simp[trimL,hm]
 |x::r=>by
  have ih:=trim_snoc m hm r;simp only[Xab,trimL,ih];cases h:r++[m] with
  |nil=>simp at h
  |cons a b=>rfl
theorem Q3e (l:LN):trimL l=l.take (trimL l).length:=by
 induction l with
 |nil=>rfl
 |cons m r ih=>
  simp only[trimL];cases h:trimL r with
  |nil=>
   simp only
   split <;> simp
  |cons x y=>
   simp only;rw[h] at ih;rw[Ul,List.take_succ_cons,<-ih]
theorem trim_len (l:LN):(trimL l).length<=l.length:=by
 rw[Q3e];exact List.length_take_le' _ _
theorem Qm8 {l:LN} (h:small l):small (trimL l):=by
 intro m hm;rw[Q3e] at hm;exact h m (Td hm)
theorem Q90:∀l:LN,trimL l=[]↔val l=0
 |[]=>by simp[trimL,val]
 |m::r=>by
  have ih:=Q90 r;simp only[trimL,val];cases h:trimL r with
  |nil=>
   have:=ih.1 h;rw[this];simp only
   split
   ·rename_i h0;simp[h0]
   ·rename_i h0;simp[h0]
  |cons x y=>
   have:val r≠0:=fun e=>by rw[ih.2 e] at h;cases h
   simp only[reduceCtorEq,false_iff];have:0<val r:=by omega
   show¬(m+4294967296*val r=0)
   omega
def Q3s:LN->LN × Nat
 |[]=>([],0)
 |m::r=>(((Q3s r).2*Q4q+m) / 10::(Q3s r).1,((Q3s r).2*Q4q+m)%10)
theorem Qg5:∀l:LN,(Q3s l).1.length=l.length
 |[]=>rfl
 |m::r=>by simp[Q3s,Qg5 r]
theorem Qa0:∀l:LN,(Q3s l).2<10
 |[]=>by decide
 |m::r=>TH _ (by decide)
theorem Qg6:∀l:LN,val l=10*val (Q3s l).1+(Q3s l).2
 |[]=>rfl
 |m::r=>by
  have ih:=Qg6 r;simp only[Q3s,val];rw[ih];have:=TL ((Q3s r).2*4294967296+m) 10
  show m+4294967296*(10*val (Q3s r).1+(Q3s r).2)=10*(((Q3s r).2*4294967296+m) / 10+4294967296*val (Q3s r).1)+((Q3s r).2*4294967296+m)%10
  omega
theorem Qbo:∀{l:LN},small l->small (Q3s l).1
 |[],_=>fun m hm=>by cases hm
 |m::r,h=>by
  have ih:=Qbo (l:=r) fun x hx=>h x (by simp[hx]);have h1:m<4294967296:=h m (by simp);have h2:=Qa0 r;intro x hx;rcases UD.1 hx with rfl|hx
  ·show ((Q3s r).2*4294967296+m) / 10<4294967296
   omega
  ·exact ih x hx
def halves (ws:LN):LN:=ws.flatMap fun w=>[w%Q4q,w / Q4q]
theorem halves_small {ws:LN} (h:∀w∈ws,w<18446744073709551616):small (halves ws):=by
 intro m hm;obtain ⟨w,hw,hm⟩:=List.mem_flatMap.1 hm;have:=h w hw
 show m<4294967296
 rcases UD.1 hm with rfl|hm
 ·exact TH _ (by decide)
 ·rw[Uy] at hm;subst hm
  show w / 4294967296<_
  omega
theorem halves_len (ws:LN):(halves ws).length=2*ws.length:=by
 induction ws with
 |nil=>rfl
 |cons w r ih=>simp only[halves,List.flatMap_cons,Ui,Ul,UP] at ih⊢;omega
theorem Qsd (N v:Nat) (s:LU) (h:Lib.decDigits N=Lib.decDigits v++s):Lib.decDigits N=(if v / 10=0 then [] else Lib.decDigits (v / 10))++(UInt8.ofNat (48+v%10)::s):=by
 rw[h];have:Lib.decDigits v=(if v / 10=0 then [] else Lib.decDigits (v / 10))++[UInt8.ofNat (48+v%10)]:=by
  rw[Lib.decDigits]
  split
  ·rename_i h1;rw[Uu (by omega),Xac h1];rfl
  ·rw[Uq (by omega)]
 rw[this];simp
theorem Q3d:∀{l:LN},small l->val l<Q4q^l.length
 |[],_=>by simp[val]
 |m::r,h=>by
  have ih:=Q3d (l:=r) fun x hx=>h x (by simp[hx]);have h1:m<4294967296:=h m (by simp);simp only[val,Ul,Tb];rw[UB (Q4q^r.length)];have h2:Q4q*(val r+1)<=Q4q*Q4q^r.length:=Xaf _ ih;rw[Tt] at h2
  show m+4294967296*val r<_
  have h3:Q4q*val r+Q4q*1=4294967296*val r+4294967296:=rfl;omega
theorem dec_len (j:Nat):∀n,n<10^j->1<=j->(Lib.decDigits n).length<=j:=by
 induction j with
 |zero=>intro n _ h;omega
 |succ j ih=>
  intro n hn _;rw[Lib.decDigits]
  split
  ·simp
  ·have hj:1<=j:=by
    rcases TZ j with rfl|h
    ·simp at hn;omega
    ·exact h
   have:=ih (n / 10) (by rw[Tb] at hn;omega) hj;simp only[Ui,List.length_singleton];omega
theorem dec_val_len {l:LN} (h:small l):(Lib.decDigits (val l)).length<=10*l.length+1:=by
 refine dec_len _ _ ?_ (by omega);refine Uc (Q3d h) ?_;rw[Tb,TW];refine Uj (Xbk (show Q4q<=10^10 by decide) _) ?_;omega
end NatM
open Go.RowKit NatM
abbrev nv3 (k:IntKind) (m:Nat):Value:=.int k (m:Int)
def RdN (k:IntKind) (w:World) (B:Nat) (a:OA) (ms:LN):Prop:=ms=[]∨∃b o,a=some ⟨b,o,none⟩/\b<B/\∀(j:Nat) m,ms[j]?=some m->w.cell? ⟨b,o+j,none⟩=some (nv3 k m)
section
variable {k:IntKind} {w w':World} {B B':Nat} {a:OA} {ms:LN}
theorem RdN.at_ (h:RdN k w B a ms) {j m:Nat} (hm:ms[j]?=some m):∃b o,a=some ⟨b,o,none⟩/\b<B/\w.cell? ⟨b,o+j,none⟩=some (.int k (m:Int)):=by
 rcases h with rfl|⟨b,o,rfl,hb,hc⟩
 ·simp at hm
 ·exact ⟨b,o,rfl,hb,hc j m hm⟩
theorem RdN.below (h:RdN k w B a ms) (hb:Below B w w'):RdN k w' B a ms:=by
 rcases h with rfl|⟨b,o,rfl,hl,hc⟩
 ·exact .inl rfl
 ·exact .inr ⟨b,o,rfl,hl,fun j m hm=>(hb.cell (p:=⟨b,o+j,none⟩) hl).trans (hc j m hm)⟩
theorem RdN.take (h:RdN k w B a ms) (n:Nat):RdN k w B a (ms.take n):=by
 rcases h with rfl|⟨b,o,rfl,hl,hc⟩
 ·exact .inl (by simp)
 ·refine .inr ⟨b,o,rfl,hl,fun j m hm=>hc j m ?_⟩;rw[Ty] at hm
  split at hm
  ·exact hm
  ·cases hm
end
abbrev sv (l:LU):Value:=.string ⟨l.toArray⟩
theorem RdI.rdN {k:IntKind} {w:World} {B:Nat} {a:OA} {ms:LN} (h:RdI k w B a ms):RdN k w B a ms:=h
theorem RdN.rdI {k:IntKind} {w:World} {B:Nat} {a:OA} {ms:LN} (h:RdN k w B a ms):RdI k w B a ms:=h
theorem Row.rdN {k:IntKind} {w:World} {B:Nat} {e:TypeId} {a:OA} {n c:Nat} {ms:LN} (h:Row w B e 1 a n c (ms.map (nv3 k))):RdN k w w.heap.size a ms:=by
 by_cases h0:ms=[]
 ·exact .inl h0
 ·obtain ⟨m,hm⟩:∃m,ms[0]?=some m:=by
   cases ms with
   |nil=>exact absurd rfl h0
   |cons m r=>exact ⟨m,rfl⟩
  obtain ⟨g,rfl,_,hg,_⟩:=h.at_ (j:=0) (x:=nv3 k m) (by rw[UI,hm];rfl);refine .inr ⟨g,0,rfl,hg,fun j x hx=>?_⟩;obtain ⟨g',e,_,_,hc⟩:=h.at_ (j:=j) (x:=nv3 k x) (by rw[UI,hx];rfl);injection e with e;injection e with e;subst e;rw[UH];exact hc
theorem Qdp (w:World) (a:OA) (n c k:Nat) (h:k<=c):(Instr.slice 85 (.slice a n c) none (some (.int .i64 (k:Int))) (some (.int .i64 (k:Int)))).run Tryz.prog w=.ok (.slice a k k) w:=by
 have ht:Tryz.prog.underlying 85=some (.slice (Tryz.prog.elem 85)):=by kernel_rfl
 have hs:(sizeOf (Tryz.prog.elem 85)).run Tryz.prog w=.ok 1 w:=by kernel_rfl
 rw[run_slice_hm w _ a n c ht .i64 .i64 (k:Int) (k:Int) (by omega) (by omega) (by omega),hs]
 show Result.ok (Value.slice (Qof a ((k:Int).toNat) 0 1) _ _) w=_
 rw[Qbj,TS,Nat.sub_zero]
theorem Q8e (a:OA) (n c:Nat) (ms:LN) (w:World) {B:Nat} (hn:ms.length=n) (hc:n<=c) (m5:c<=9223372036854775807) (h:RdN .u32 w B a ms):
 Calls Tryz.prog 114 #[.slice a n c] w fun e w'=>e=.returned (.slice a (trimL ms).length (trimL ms).length)/\w=w':=by
 have H:=Ua h;have HN:=Ua hn;clear h hn
 go_enter Tryz.func114,Tryz.ntmps114
 go_wp2_with fail
 go_loop [3] (fun v=>∃i:Nat,v=.int .i64 (i:Int)/\i<=n/\trimL ms=trimL (ms.take i)) (fun v=>(intOf v).toNat)
 case atStart=>exact ⟨n,rfl,Ue _,by rw[Uw (by rw[HN.out];exact Ue _)]⟩
 case round=>
  obtain ⟨i,rfl,hi,ht⟩:=hrel;rcases TZ i with rfl|S2
  ·have HT:=Ua (show (trimL ms).length=0 by rw[ht];rfl);have QX:=fun w=>Qdp w a n c 0 (by omega);clear ht
   go_wp2_with fail
   go_ret;rw[HT.out];exact ⟨rfl,rfl⟩
  ·obtain ⟨i,rfl⟩:∃i',i=i'+1:=⟨i-1,by omega⟩;obtain ⟨m,hm⟩:∃m,ms[i]?=some m:=⟨_,Ub (by rw[HN.out];omega)⟩;obtain ⟨b,o,rfl,hb,J0⟩:=H.out.at_ hm;have i4:ms.take (i+1)=ms.take i++[m]:=(by rw[Tu,hm];rfl);have h0:(0:Int)<=(i:Int):=(by omega);have h1:(i:Int)<(n:Int):=by omega
   by_cases hz:m=0
   ·subst hz;have HT:=Ua (show trimL ms=trimL (ms.take i) by rw[ht,i4,trim_snoc_zero]);clear ht i4 hm
    go_wp2_with fail
    go_round
    case rel=>exact ⟨i,by go_num,by omega,HT.out⟩
    case measure=>simp[intOf]
   ·have HT:=Ua (show (trimL ms).length=i+1 by rw[ht,i4,trim_snoc m hz,Ui,List.length_take_of_le (by rw[HN.out];omega)];rfl);have hz':((m:Int)==0)=false:=(by rw[Uk];omega);have Y1:¬((m:Int)=0):=(by omega);have QX:=fun w=>Qdp w (some ⟨b,o,none⟩) n c (i+1) (by omega);clear ht i4 hm
    go_wp2_with fail
    go_ret;rw[HT.out];exact ⟨rfl,rfl⟩
theorem Q6g:(Tryz.prog.info? 150).map (fun i=>(i.zero,i.size,i.bytes))=some (some (.int .u32 0),1,4):=by kernel_rfl
theorem Qon (v:Nat) (h:v<18446744073709551616):bits BinOp.and IntKind.u64 (v:Int) 4294967295=((v%4294967296:Nat):Int):=
 bits_mask .u64 64 (by decide) (fun n h0 h1=>by rw[IntKind.wrap_u64];omega) 32 (by decide) (v:Int) (by omega) (by omega)
theorem Qj0 (ws:LN) (i w:Nat) (h:ws[i]?=some w):halves (ws.take (i+1))=halves (ws.take i)++[w%4294967296,w / 4294967296]:=by
 rw[Tu,h];simp[halves]
theorem Qj1 (a:OA) (n c:Nat) (ws:LN) (w:World) (hn:ws.length=n) (hm:n<=1000000) (h:RdN .u64 w w.heap.size a ws) (hw:∀x∈ws,x<18446744073709551616):
 Calls Tryz.prog 73 #[.slice a n c] w fun e w'=>∃a' n' c',e=.returned (.slice a' n' c')/\n'=(trimL (halves ws)).length/\n'<=c'/\c'<=9223372036854775807/\RdN .u32 w' w'.heap.size a' (trimL (halves ws))/\Bw w w':=by
 have H:=Ua h;have HN:=Ua hn;have HWS:=Ua hw;clear h hn hw;obtain ⟨i0,S2,E2,O1,Y1⟩:=Xbn Q6g
 go_enter Tryz.func73,Tryz.ntmps73
 go_wp2_with fail
 go_loopw [3,4] (fun v iv wr=>∃(i:Nat) (ao:OA) (co:Nat),iv=.int .i64 (i:Int)/\i<=n/\v=.slice ao (2*i) co/\Row wr w.heap.size 150 1 ao (2*i) co ((halves (ws.take i)).map (nv3 .u32))/\Bw w wr) (fun _ iv _=>n-(intOf iv).toNat)
 case atStart=>exact ⟨0,none,0,rfl,Uv _,rfl,Row.nil_ _ _ _ _,Ud _ _⟩
 case round=>
  obtain ⟨i,ao,co,rfl,hi,rfl,K0,X5⟩:=hrel
  by_cases F0:i<n
  ·obtain ⟨x,hx⟩:∃x,ws[i]?=some x:=⟨_,Ub (by rw[HN.out];omega)⟩;have hx64:=HWS.out x (Ug hx);obtain ⟨b,o,rfl,hb,J0⟩:=(H.out.below X5).at_ hx;have HS:=Ua (Qj0 ws i x hx);have HB:=Ua X5;have HR:=Ua K0;have J4:wr.ownsRow w.heap.size 150 1 (.slice ao (2*i) co) (2*i) ((halves (ws.take i)).map (nv3 .u32)):=K0;have h0:(0:Int)<=(i:Int):=(by omega);have h1:(i:Int)<(n:Int):=(by omega);have B6:=Qon x hx64;have F7:(((x%4294967296:Nat):Int))<4294967296:=(by omega);have F2:=X5.size;have e1:IntKind.u32.wrap ((x:Int)%4294967296)=(x:Int)%4294967296:=(by rw[IntKind.wrap_u32];omega);have e2:IntKind.u32.wrap ((x:Int) / 4294967296)=(x:Int) / 4294967296:=(by rw[IntKind.wrap_u32];omega);clear hx K0 X5
   go_wp2_with fail
   go_region_held_law (fun w'=>w'.cell? ⟨b,o+i,none⟩=some (.int .u64 (x:Int))) (first|go_keep|(rw[J3.cell_far _ (by simp;omega) (by rcases Row.form HR.out with ⟨h,_⟩|⟨g,cur,h,hg,_⟩ <;> (rw[h];simp[Value.ownBlock];try omega))];assumption))
    ((refine step_append_lies _ (by rfl) _ _ _ (by rfl) w.heap.size 150 i0 _ 1 4 Tryz.underlying85 S2 E2 O1 Y1 rfl (by omega) (.slice ao (2*i) co) (2*i) _ (by rfl) ((J4.alloc _).drew)
       ⟨wr.heap.size,0,none⟩ 2 2 [.int .u32 ((x:Int)%4294967296),.int .u32 ((x:Int) / 4294967296)] (by rfl) (by rfl) (Tz (cs:= #[.int .u32 ((x:Int)%4294967296),.int .u32 ((x:Int) / 4294967296)]) (t:=150) (fr:=(0,0)) (Up wr _)) (by simp[Value.oneCell'])
       (by omega) (by unfold maxLen;omega) (by omega) (by simp;omega) (wr.heap.size+1) (by simp) ?_;intro gg cap w1 YQ J3 J2 F0))
   have HO:=Xh3 YQ J3 J2;clear J4 YQ J3 J2 e1 e2 B6 F7
   go_wp2_with fail
   go_roundw
   case rel=>
    obtain ⟨g1,g2,g3⟩:=HO.out;refine ⟨i+1,some ⟨gg,0,none⟩,cap,by go_num,by omega,rfl,?_,?_⟩
    ·rw[HS.out,Tq];exact g1
    ·refine Below.grown (HB.out.alloc F2 _).drew g2 (by simp;omega) fun k hk=>?_;rcases Row.form HR.out with ⟨h,_⟩|⟨g,cur,h,hg,_⟩
     ·rw[h] at hk;cases hk
     ·rw[h] at hk;simp[Value.ownBlock] at hk;omega
   case measure=>simp[intOf];omega
  ·obtain rfl:i=n:=(by omega);rw[Uw (by rw[HN.out];exact Ue _)] at K0;have O0:(halves ws).length=2*i:=(by rw[halves_len,HN.out]);have Q4:=K0.cap;have hco:co<=9223372036854775807:=Q4.2;have HB:=Xh3 X5 Q4.1 hco;have HTR:=Ua (fun wx (hx:wx=wr)=>Q8e ao (2*i) co (halves ws) wx (B:=wr.heap.size) O0 Q4.1 hco (by subst hx;exact Row.rdN K0));have HRD:=Ua ((Row.rdN K0).take (trimL (halves ws)).length);have WH:=Ua (Q3e (halves ws));clear K0 X5 Q4 O0 hi F0 hco
   go_wp2_with (refine (HTR.out _ rfl).mono ?_;rintro e w' ⟨rfl,rfl⟩)
   go_ret;refine ⟨ao,_,_,rfl,rfl,Ue _,?_,?_,(Xo0 HB)⟩
   ·have:=trim_len (halves ws);rw[halves_len,HN.out] at this;omega
   ·have h2:=HRD.out;rw[<-WH.out] at h2;exact h2
theorem or32 (c m:Nat) (hc:c<4294967296) (hm:m<4294967296):bits BinOp.or IntKind.u64 ((c*4294967296:Nat):Int) (m:Int)=((c*4294967296+m:Nat):Int):=by
 rw[u64_or_nat _ _ (by omega) (by omega)];have:=Nat.shiftLeft_add_eq_or_of_lt (a:=c) (i:=32) (b:=m) hm;rw[Nat.shiftLeft_eq] at this;rw[show c*4294967296=c*2^32 from rfl,<-this]
theorem Qoo (d:UInt8) (t:LU):Value.string ((⟨#[d]⟩:ByteArray)++⟨t.toArray⟩)=sv (d::t):=by
 refine congrArg Value.string (ByteArray.ext ?_);simp[UM]
theorem Qop {w0 w:World} {H j n B:Nat} {T:TypeId} {cs:Array Value} {xs:LV} (hh:w.heap[H]?=some (.cells cs T (0,0))) (hs:cs.size=n) (hc:cs.toList.drop (j+1)=xs) (hj:j<n) (v:Value) (hb:Below B w0 w) (hB:B<=H):
 ∃cs',(w.setCell ⟨H,j,none⟩ v).heap[H]?=some (.cells cs' T (0,0))/\cs'.size=n/\cs'.toList.drop j=v::xs/\Below B w0 (w.setCell ⟨H,j,none⟩ v):=by
 refine ⟨cs.setIfInBounds j v,heap_setCell_same _ _ _ _ _ _ hh,by simpa using hs,?_,hb.setCell hB _⟩;rw[Xav,UQ (by simp;omega),List.getElem_set_self,<-hc];rw[List.drop_set_of_lt (by omega)]
theorem Q6h {α:Type} (l:List α) (i:Nat) (m:α) (h:l[i]?=some m):l.drop i=m::l.drop (i+1):=by
 obtain ⟨hi,rfl⟩:=Uh.1 h;exact UQ hi
theorem Qm9 (a:OA) (n c:Nat) (ms:LN) (w:World) (hn:ms.length=n) (hm:n<=1000000) (hc:n<=c) (m5:c<=9223372036854775807) (h:RdN .u32 w w.heap.size a ms) (hs:small ms):
 Calls Tryz.prog 72 #[.slice a n c] w fun e w'=>e=.returned (sv (Lib.decDigits (val ms)))/\Bw w w':=by
 rcases TZ n with rfl|ZZ
 ·obtain rfl:ms=[]:=UC.1 hn;clear h hs hn;have HD:=Ua (show Lib.decDigits (val [])=[48] by simp[val,Lib.decDigits])
  go_enter Tryz.func72,Tryz.ntmps72
  go_wp2_with fail
  go_ret;rw[HD.out];exact ⟨rfl,Ud _ _⟩
 have hn0':((n:Int)==0)=false:=by rw[Uk];omega
 have hn0'':¬(n:Int)=0:=by omega
 have H:=Xh3 h hs hn;clear h hs hn
 go_enter Tryz.func72,Tryz.ntmps72
 go_wp2_with fail
 go_loopg [0,3] (2*val ms+1) (fun g mv tv wr=>∃(k:Nat) (cc:Nat) (ao:OA) (ls:LN) (t:LU),mv=.slice ao k cc/\tv=sv t/\ls.length=k/\k<=n/\k<=cc/\cc<=9223372036854775807/\RdN .u32 wr wr.heap.size ao ls/\small ls/\(ls=[]->val ls=0)/\
  Lib.decDigits (val ms)=(if ls=[] then [] else Lib.decDigits (val ls))++t/\g=2*val ls+(if ls=[] then 0 else 1)/\Bw w wr)
 case atStart=>
  obtain ⟨h,hs,hn⟩:=H.out;have C1:ms≠[]:=by intro e;rw[e] at hn;simp at hn;omega
  exact ⟨n,c,a,ms,[],rfl,rfl,hn,Ue _,hc,m5,h,hs,fun e=>absurd e C1,by rw[Uq C1];simp,by rw[Uq C1],Ud _ _⟩
 case round=>
  obtain ⟨k,cc,ao,ls,t,rfl,rfl,hl,hk,Y3,hcc',R7,X4,_,D4,hg,X5⟩:=hrel;generalize wr=W1 at*;rcases TZ k with rfl|Xa
  ·obtain rfl:ls=[]:=UC.1 hl;have HD:=Ua (show Lib.decDigits (val ms)=t by rw[D4];simp);have HB:=Ua X5;clear D4 hg X5 R7 X4 hl
   go_wp2_with fail
   go_ret;rw[HD.out];exact ⟨rfl,HB.out⟩
  ·have Xx:(0:Int)<(k:Int):=(by omega);have HE:=Xh6 R7 X4 hl D4 hg X5;have j4:=Xa2 (P:=Tryz.prog) 85 150 (.int .u32 0) 4 Tryz.underlying85 Q6g rfl .i64 .i64 k (by omega) (by omega);clear R7 X4 hl D4 hg X5
   go_wp2_with fail
   go_loopw [5,6] (fun cv iv wx=>∃(i:Nat) (cs:Array Value),iv=.int .i64 ((i:Int)-1)/\cv=.int .u64 ((Q3s (ls.drop i)).2:Int)/\i<=k/\wx.heap[W1.heap.size]?=some (.cells cs 150 (0,0))/\cs.size=k/\cs.toList.drop i=(Q3s (ls.drop i)).1.map (nv3 .u32)/\Bw W1 wx) (fun _ iv _=>(intOf iv+1).toNat)
   case atStart=>
    have hl:=(Xo2 HE);refine ⟨k,_,rfl,?_,Ue _,Up _ _,?_,?_,Ba⟩
    ·rw[TX (by omega)];rfl
    ·exact size_madeCells _ _
    ·rw[TX (by rw[Xbl,size_madeCells];omega),TX (by omega)];rfl
   case round=>
    obtain ⟨i,cs,rfl,rfl,hi,hh,B7,hd,hb⟩:=hrel;rcases TZ i with rfl|S2
    ·obtain ⟨R7,X4,hl,D4,hg,X5⟩:=HE.out;have e0:ls.drop 0=ls:=Xa3;rw[e0,Xa3] at hd;rw[e0];have O0:=Qg5 ls;have VJ:=Qa0 ls;have N0:=Qg6 ls;have Yr:=Qbo X4;obtain ⟨⟨qs,C⟩,hq⟩:∃p,Q3s ls=p:=⟨_,rfl⟩;rw[hq] at hd O0 VJ N0 Yr⊢;have hd:cs.toList=qs.map (nv3 .u32):=hd;have O0:qs.length=ls.length:=O0;have VJ:C<10:=VJ;have N0:val ls=10*val qs+C:=N0;have Yr:small qs:=Yr;have J6:t.length<=10*n+1:=by
      obtain ⟨h,hs,hn⟩:=H.out;have h1:=dec_val_len hs;rw[D4,Ui,hn] at h1;omega
     have hrq:∀wx,Bw wr wx->RdN .u32 wx wx.heap.size (some ⟨W1.heap.size,0,none⟩) qs:=by
      intro wx A2;have F0:=(Uo.1 hh).1;refine .inr ⟨W1.heap.size,0,rfl,Uc F0 A2.size,fun j x hx=>?_⟩;rw[UL _ _ _ _ _ _ ((A2.block _ F0).trans hh),<-Tr,hd,UI,UH,hx];rfl
     have HH:=Xh9 D4 hg X5 hl O0 N0 Yr hrq hb;have HTR:=Ua (fun wx (A2:Bw wr wx)=>Q8e (some ⟨W1.heap.size,0,none⟩) k k qs wx (B:=wx.heap.size) (by omega) (Ue _) (by omega) (hrq wx A2));have hC:(C:Int)<10:=(by omega);obtain ⟨d,hde⟩:∃d,UInt8.ofNat (48+C)=d:=⟨_,rfl⟩;have HD:=Ua hde;clear R7 X4 hl D4 hg X5 O0 N0 Yr hrq hb hd hh B7 hq hde
     go_wp2_with fail
     rw[Qai _ (wr.heap.size+1) _ 1 _ [d] ?_ rfl]
     ·go_wp2_with (refine (HTR.out _ (Ba)).mono ?_;rintro e w' ⟨rfl,rfl⟩)
      obtain ⟨D4,hg,X5,hl,O0,N0,Yr,hrq,hb⟩:=HH.out;have hlsne:ls≠[]:=(by intro e;rw[e] at hl;simp at hl;omega);rw[Uq hlsne] at D4 hg;have Js:=Qsd (val ms) (val ls) t D4;have hmod:val ls%10=C:=(by omega);have WV:val ls / 10=val qs:=(by omega);rw[hmod,WV,HD.out] at Js;have Vg:=Q90 qs;have hv:=Q1c qs
      go_roundg (2*val (trimL qs)+(if trimL qs=[] then 0 else 1))
      case measure=>
       rw[hv]
       by_cases h0:trimL qs=[]
       ·rw[Uu h0,Vg.1 h0];omega
       ·rw[Uq h0];have:val qs≠0:=fun e=>h0 (Vg.2 e);omega
      case rel=>
       refine ⟨(trimL qs).length,(trimL qs).length,_,trimL qs,d::t,rfl,Qoo d t,rfl,?_,Ue _,?_,?_,Qm8 Yr,fun e=>by rw[e];rfl,?_,rfl,?_⟩
       ·have:=trim_len qs;omega
       ·have:=trim_len qs;omega
       ·have:=(hrq _ ((Ud wr.heap.size wr).alloc (Ue _) (.cells #[.int .u8 (48+(C:Int))] 5))).take (trimL qs).length;rw[<-Q3e] at this;exact this
       ·rw[Js,hv]
        by_cases h0:trimL qs=[]
        ·rw[Uu (Vg.1 h0),Uu h0]
        ·rw[Uq (fun e=>h0 (Vg.2 e)),Uq h0]
       ·exact (Below.next0 X5 hb).alloc (Uj X5.size hb.size) _
     ·refine .inr ⟨wr.heap.size,0,rfl,by omega,fun j x hx=>?_⟩;cases j with
      |zero=>
       have hx:some d=some x:=hx;injection hx with hx;subst hx;rw[UL _ _ _ _ _ _ (Up _ _)];have:d.toNat=48+C:=(by rw[<-HD.out,UInt8.toNat_ofNat'];omega);unfold bv;rw[this];rfl
      |succ j=>cases hx
    ·obtain ⟨i,rfl⟩:∃j,i=j+1:=⟨i-1,by omega⟩;obtain ⟨R7,X4,hl,D4,hg,X5⟩:=HE.out;obtain ⟨m,hm⟩:∃m,ls[i]?=some m:=⟨_,Ub (by omega)⟩;have hm32:m<4294967296:=X4 m (Ug hm);obtain ⟨b,o,rfl,S5,KS⟩:=R7.at_ hm;have J0:wr.cell? ⟨b,o+i,none⟩=some (.int .u32 (m:Int)):=(hb.cell (p:=⟨b,o+i,none⟩) S5).trans KS;have VJ:=Qa0 (ls.drop (i+1));have Z1:Q3s (ls.drop i)=(((Q3s (ls.drop (i+1))).2*Q4q+m) / 10::(Q3s (ls.drop (i+1))).1,((Q3s (ls.drop (i+1))).2*Q4q+m)%10):=(by rw[Q6h ls i m hm,Q3s]);have U8:=or32 (Q3s (ls.drop (i+1))).2 m (by omega) hm32;obtain ⟨cs',k1,k2,k3,k4⟩:=Qop hh B7 hd (by omega) (.int .u32 (((((Q3s (ls.drop (i+1))).2*4294967296+m) / 10:Nat):Int))) hb (Ue _);obtain ⟨x0,Y5⟩:∃x0,cs[i]?=some x0:=⟨cs[i]'(by omega),UZ (by omega)⟩;have hcq:wr.cell? ⟨W1.heap.size,i,none⟩=some x0:=(by rw[UL _ _ i _ _ _ hh];exact Y5);have j6:wr.frozen? ⟨W1.heap.size,i,none⟩=false:=Tx _ _ _ _ _ hh;obtain ⟨C,hC⟩:∃C,(Q3s (ls.drop (i+1))).2=C:=⟨_,rfl⟩;rw[hC] at VJ Z1 U8 k1 k3 k4⊢;have Z1:Q3s (ls.drop i)=((C*4294967296+m) / 10::(Q3s (ls.drop (i+1))).1,(C*4294967296+m)%10):=Z1;have hT:C*4294967296+m<42949672960:=(by omega);obtain ⟨T,hTe⟩:∃T,C*4294967296+m=T:=⟨_,rfl⟩;rw[hTe] at Z1 U8 k1 k3 k4 hT;have U8:bits BinOp.or IntKind.u64 ((C:Int)*4294967296) (m:Int)=(T:Int):=(by rw[<-U8];congr 1);have eT:((T / 10:Nat):Int)=(T:Int) / 10:=(by omega);rw[eT] at k1 k3 k4;have HS:=Xh5 Z1 k1 k2 k3 k4;have S2:(0:Int)<=(i:Int):=(by omega);have hi1:(i:Int)<(k:Int):=(by omega);have Ym:(T:Int) / 10<4294967296:=(by omega);have hT2:(0:Int)<=(T:Int) / 10:=(by omega);clear R7 X4 hl D4 hg X5 hm KS Z1 k1 k2 k3 k4 hh B7 hd hb Y5 hC hTe eT
     go_wp2_with fail
     go_roundw
     case rel=>
      obtain ⟨g1,g2,g3,g4,g5⟩:=HS.out;refine ⟨i,cs',rfl,?_,by omega,g2,g3,?_,g5⟩
      ·rw[g1];exact congrArg (Value.int .u64) (by omega)
      ·rw[g4,g1];exact congrArg (·::_) (congrArg (Value.int .u32) (by omega))
     case measure=>simp[intOf]
end Go.Proofs.YtidojbkhlenahaaGreatDoor
