/- Part 8. No condition. -/
import Derived.Test.YtidojbkhlenahaaGreatDoorPkProblemDrawn07
set_option maxRecDepth 100000
set_option maxHeartbeats 16000000
namespace Go.Proofs.YtidojbkhlenahaaGreatDoor
open Go.RowKit WordsM
def Qn0 (v u:Nat):Int:=if v<u then -1 else if u<v then 1 else 0
theorem Qn1 (a:OA) (n c v:Nat) (b:OA) (m d u:Nat) (w:World) (h1:Q0v w a n c v) (h2:Q0v w b m d u) (hn:n<=1000000):
 Calls Tryz.prog 207 #[.slice a n c,.slice b m d] w fun e w'=>e=.returned (.int .i64 (Qn0 v u))/\Bw w w':=by
 have JW:val (2^32) (dig (2^32) v)=v:=Q10 (by decide) v;have JU:val (2^32) (dig (2^32) u)=u:=Q10 (by decide) u;have Za:=Q29 (B:=2^32) (by decide) v;have Jw:=Q29 (B:=2^32) (by decide) u;have o6:=h1.len;have ZX:=h2.len;have P3:=h1.rd;have P1:=h2.rd;have ZO:n<m->v<u:=fun h=>TR fun x5=>by
  have h3:=Q1w (B:=2^32) (by decide) x5;omega
 have ZL:m<n->u<v:=fun h=>TR fun x5=>by
  have h3:=Q1w (B:=2^32) (by decide) x5;omega
 obtain ⟨A,hA⟩:∃A,dig (2^32) v=A:=⟨_,rfl⟩;obtain ⟨K,hK⟩:∃K,dig (2^32) u=K:=⟨_,rfl⟩;rw[hA] at JW Za o6 P3;rw[hK] at JU Jw ZX P1;obtain ⟨r,hr⟩:∃r,Qn0 v u=r:=⟨_,rfl⟩;have H:=Xh6 JW JU Za Jw P3 P1;rw[hr];have HL:=Xh3 ZO ZL hr;clear JW JU Za Jw P3 P1 hA hK h1 h2 ZO ZL hr
 by_cases C1:n=m
 ·subst C1;have hneI:((n:Int) != (n:Int))=false:=by simp
  go_enter Tryz.func207,Tryz.ntmps207
  go_wp2_with fail
  go_loopw [5] (fun iv wr=>∃j:Nat,iv=.int .i64 ((j:Int)-1)/\j<=n/\A.drop j=K.drop j/\Bw w wr) (fun iv _=>(intOf iv+1).toNat)
  case atStart=>exact ⟨n,rfl,Ue _,by rw[Tm (by omega),Tm (by omega)],Ud _ _⟩
  case round=>
   obtain ⟨j,rfl,hj,KE,hb⟩:=hrel;cases j with
   |zero=>
    have K8:A=K:=(by simpa using KE);have D6:r=0:=by
     rw[<-(Xe2 HL),<-(Xo0 H),<-(Xo1 H),K8];unfold Qn0;rw[Uq (Nat.lt_irrefl _),Uq (Nat.lt_irrefl _)]
    have HE:=Xh2 D6 hb;clear KE K8 hb D6
    go_wp2_with fail
    go_ret;exact ⟨by rw[(Xo0 HE)];rfl,(Xe1 HE)⟩
   |succ j=>
    obtain ⟨x,hx⟩:∃x,A[j]?=some x:=⟨_,Ub (by omega)⟩;obtain ⟨y,hy⟩:∃y,K[j]?=some y:=⟨_,Ub (by omega)⟩;obtain ⟨g1,o1,j5,O5,Y4⟩:=((Xo4 H).below hb).at_ hx;obtain ⟨g2,o2,X7,Q2,QV⟩:=((Xe5 H).below hb).at_ hy;subst j5 X7;have hjI:((j+1:Nat):Int)-1=(j:Int):=(by omega);have hjA:(j:Int)<(n:Int):=(by omega);have hj0:((j:Int)≥0):=(by omega);have HH:=Xh4 KE hb hx hy;clear KE hb hx hy;rw[hjI]
    by_cases F0:x<y
    ·have YY:(x:Int)<(y:Int):=(by omega);have hv:=Qf5 (B:=2^32) (by decide) (Xo2 H) (Xo2 HH) (Xe3 HH) (Xo0 HH) F0;have D6:r= -1:=by
      rw[<-(Xe2 HL)];unfold Qn0;rw[Uu (by rw[<-(Xo0 H),<-(Xo1 H)];exact hv)]
     have HV:=Ua D6;clear hv D6
     go_wp2_with fail
     go_quiet (fail)
     go_wp2_with fail
     go_ret;exact ⟨by rw[HV.out];rfl,Q19 (Xo1 HH) _⟩
    ·have YY:¬(x:Int)<(y:Int):=by omega
     by_cases hgt:y<x
     ·have hyx:(y:Int)<(x:Int):=(by omega);have hv:=Qf5 (B:=2^32) (by decide) (Xo3 H) (Xe3 HH) (Xo2 HH) (Xo0 HH).symm hgt;have D6:r=1:=by
       rw[<-(Xe2 HL)];unfold Qn0;have B9:u<v:=(by rw[<-(Xo0 H),<-(Xo1 H)];exact hv);rw[Uq (by omega),Uu B9]
      have HV:=Ua D6;clear hv D6
      go_wp2_with fail
      go_quiet (fail)
      go_wp2_with fail
      go_quiet (fail)
      go_wp2_with fail
      go_ret;exact ⟨by rw[HV.out];rfl,Q19 (Q19 (Xo1 HH) _) _⟩
     ·have hyx:¬(y:Int)<(x:Int):=(by omega);have WR:x=y:=by omega
      go_wp2_with fail
      go_quiet (fail)
      go_wp2_with fail
      go_quiet (fail)
      go_wp2_with fail
      refine ⟨⟨j,rfl,by omega,?_,Q19 (Xo1 HH) _⟩,by simp only[intOf];omega⟩;have h1:=(Xo0 HH);have e1:=(Uh.1 (Xo2 HH));have e2:=(Uh.1 (Xe3 HH));rw[UQ e1.1,UQ e2.1,e1.2,e2.2,h1,WR]
 ·have hneI:((n:Int) != (m:Int))=true:=by rw[bne_iff_ne];omega
  by_cases F0:n<m
  ·have hltI:(n:Int)<(m:Int):=(by omega);have D6:r= -1:=(by rw[<-(Xe2 HL)];unfold Qn0;rw[Uu ((Xo0 HL) F0)]);have HV:=Ua D6;clear D6
   go_enter Tryz.func207,Tryz.ntmps207
   go_wp2_with fail
   go_ret;exact ⟨by rw[HV.out];rfl,Ud _ _⟩
  ·have hltI:¬(n:Int)<(m:Int):=(by omega);have D6:r=1:=by
    have:=(Xo1 HL) (by omega);rw[<-(Xe2 HL)];unfold Qn0;rw[Uq (by omega),Uu this]
   have HV:=Ua D6;clear D6
   go_enter Tryz.func207,Tryz.ntmps207
   go_wp2_with fail
   go_ret;exact ⟨by rw[HV.out];rfl,Ud _ _⟩
theorem Qjl {B:Nat} {A K L:LN} {i cr x y z cr':Nat} (hL:L.length=i) (hx:A[i]?=some x) (hs:z+y+cr=x+cr'*B) (hy:K[i]?.getD 0=y) (h:val B L+val B (K.take i)=val B (A.take i)+cr*B^i):val B (L++[z])+val B (K.take (i+1))=val B (A.take (i+1))+cr'*B^(i+1):=by
 rw[Q8w,hL,Q5e A i,Q5e K i,hx,hy,Xa0,Tb];have h1:B^i*z+B^i*y+cr*B^i=B^i*x+cr'*(B^i*B):=by
  have:=congrArg (B^i*·) hs;simp only[Tt] at this;rw[UB cr,Nat.mul_left_comm cr'];rw[<-this]
 omega
theorem Qjm {u v l cr X:Nat} (huv:u<=v) (h3:l<X) (h:l+u=v+cr*X):cr=0:=by
 refine Nat.eq_zero_of_not_pos fun p6=>?_;have h4:X<=cr*X:=Nat.le_mul_of_pos_left _ p6;omega
theorem Qdz (a:OA) (n c:Nat) (v:Nat) (b:OA) (m d:Nat) (u:Nat) (w:World) (h1:Q0v w a n c v) (h2:Q0v w b m d u) (hn:n<=100000) (huv:u<=v):
 Calls Tryz.prog 208 #[.slice a n c,.slice b m d] w fun e w'=>∃a' n',e=.returned (.slice a' n' n')/\Q0v w' a' n' n' (v-u)/\Bw w w':=by
 have JW:val (2^32) (dig (2^32) v)=v:=Q10 (by decide) v;have JU:val (2^32) (dig (2^32) u)=u:=Q10 (by decide) u;have Za:=Q29 (B:=2^32) (by decide) v;have Jw:=Q29 (B:=2^32) (by decide) u;have o6:=h1.len;have ZX:=h2.len;have hmn:m<=n:=by
  have h3:=Q1w (B:=2^32) (by decide) huv;omega
 have P3:=h1.rd;have P1:=h2.rd;obtain ⟨A,hA⟩:∃A,dig (2^32) v=A:=⟨_,rfl⟩;obtain ⟨K,hK⟩:∃K,dig (2^32) u=K:=⟨_,rfl⟩;rw[hA] at JW Za o6 P3;rw[hK] at JU Jw ZX P1;obtain ⟨i0,S2,E2,O1,Y1⟩:=Xbn Q6g;have HI:=Xh4 S2 E2 O1 Y1;have H:=Xh7 JW JU Za Jw P3 P1 huv;have VM:=fun (i:Nat) W (hb:Bw w W)=>Q7a b m d K i W ZX (P1.below hb) Jw;have HD:=Ua VM;clear JW JU Za Jw P3 P1 hA hK h1 h2 VM S2 E2 O1 Y1 huv
 go_enter Tryz.func208,Tryz.ntmps208
 go_wp2_with fail
 go_loopw [5,6,7] (fun ov cv iv wr=>∃(i cr:Nat) (L:LN) (ao:OA) (co:Nat),ov=.slice ao i co/\cv=.int .u64 (cr:Int)/\iv=.int .i64 (i:Int)/\cr<=1/\i<=n/\Row wr w.heap.size 150 1 ao i co (L.map (nv .u32))/\L.length=i/\Low (2^32) L/\val (2^32) L+val (2^32) (K.take i)=val (2^32) (A.take i)+cr*(2^32)^i/\Bw w wr) (fun _ _ iv _=>n-(intOf iv).toNat)
 case atStart=>exact ⟨0,0,[],none,0,rfl,rfl,rfl,by decide,Uv _,Row.nil_ _ _ _ _,rfl,fun x hx=>by simp at hx,by simp[val],Ud _ _⟩
 case round=>
  obtain ⟨i,cr,L,ao,co,rfl,rfl,rfl,Ql,hi,K0,F5,X0,N0,hb⟩:=hrel
  by_cases Q3:i=n
  ·have e1:K.take i=K:=Uw (by rw[ZX,Q3];exact hmn);have e2:A.take i=A:=Uw (by rw[o6,Q3];exact Ue _);rw[e1,e2,(Xo0 H),(Xo1 H)] at N0;have hcr0:cr=0:=by
    have h3:=Q3d (B:=2^32) (by decide) L X0;rw[F5] at h3;exact Qjm (Xe6 H) h3 N0
   subst hcr0;rw[TQ,TD] at N0;have hT:=Q53 ao i co L wr F5 K0.cap.1 K0.cap.2 (Row.rdI K0) X0;rw[show val (2^32) L=v-u by omega] at hT;have HT:=Xh2 hT hb;have l1:¬(i:Int)<(n:Int):=(by omega);clear hT hb N0 X0 K0 Q3 e1 e2
   go_wp2_with (refine (Xo0 HT).mono ?_;rintro e w1 ⟨n',rfl,ZT,hD,rfl⟩;have Zb:=Ua hD;clear hD)
   go_ret;exact ⟨ao,n',rfl,Zb.out,(Xe1 HT)⟩
  ·have F0:i<n:=(by omega);have l1:(i:Int)<(n:Int):=(by omega);obtain ⟨x,hx⟩:∃x,A[i]?=some x:=⟨_,Ub (by omega)⟩;obtain ⟨g1,o1,j5,O5,Y4⟩:=((Xo4 H).below hb).at_ hx;subst j5;have B4:x<4294967296:=(Xo2 H) x (Ug hx);have Qk:K[i]?.getD 0<4294967296:=Qb2 (by decide) (Xo3 H) i;have R0:=fun z cr' hs=>Qjl (B:=2^32) (z:=z) (cr':=cr') (cr:=cr) F5 hx hs rfl N0;have hd:∀W:World,W.heap=wr.heap->Calls Tryz.prog 193 #[.slice b m d,.int .i64 (i:Int)] W fun e w'=>e=.returned (.int .u64 ((K[i]?.getD 0:Nat):Int))/\∃n,w'=W.drewN n:=fun W hW=>by
    have h1:=Q7a b m d K i W (B:=w.heap.size) ZX (RdI.keep ((Xo5 H).below hb) (fun p _=>by unfold World.cell?;rw[hW])) (Xo3 H);refine h1.mono ?_;rintro e w' ⟨rfl,rfl⟩;exact ⟨rfl,0,rfl⟩
   generalize K[i]?.getD 0=y at*;obtain ⟨S,hS⟩:∃S,y+cr=S:=⟨_,rfl⟩;have hSI:(y:Int)+(cr:Int)=(S:Int):=(by omega);have hSl:S<=4294967296:=(by omega);have Q1:∀o nq,Bw w ((wr.drewN nq).alloc o):=fun o nq=>(Q19 hb nq).alloc hb.size o;have X3:∀o nq,w.heap.size<=((wr.drewN nq).alloc o).heap.size:=fun o nq=>(Q1 o nq).size;have Qw:∀o nq,Row ((wr.drewN nq).alloc o) w.heap.size 150 1 ao i co (L.map (nv .u32)):=fun o nq=>(K0.drewN nq).alloc o;obtain ⟨cr',Z,hcr',hZ,Yz⟩:∃cr' Z:Nat,cr'<=1/\Z+S=x+cr'*4294967296/\Z<4294967296:=by
    by_cases F0:x<S
    ·exact ⟨1,x+4294967296-S,Ue _,by omega,by omega⟩
    ·exact ⟨0,x-S,by omega,by omega,by omega⟩
   have C7:=R0 Z cr' (by rw[<-hZ,<-hS];omega);have HH:=Xh5 C7 Qw Q1 X3 X0;clear R0 Qw Q1 X3 hb K0 N0 C7 X0 hS hx;have hwn:IntKind.u32.wrap (Z:Int)=(Z:Int):=by
    simp only[IntKind.wrap,IntKind.signed,IntKind.bits];simp;omega
   by_cases F0:x<S
   ·have hltI:(x:Int)<(S:Int):=(by omega);obtain rfl:cr'=1:=(by omega);have hZI:(x:Int)+4294967296-(S:Int)=(Z:Int):=by omega
    go_wp2_with fail
    go_quiet (first|(refine Calls.quiet_of (hd _ ?_);rfl))
    go_wp2_with (at_builtin;refine Q0q rfl (.tmp 31) (.tmp 36) 85 rfl w _ 150 i0 _ 1 4 Tryz.underlying85 (Xo0 HI) (Xo1 HI) (Xo2 HI) (Xe3 HI) rfl (by decide) w.heap.size ((Xo2 HH) _ _) ((Xo3 HH) _ _) ao i co _ rfl ((Xo1 HH) _ _) ⟨(wr.drewN nq).heap.size,0,none⟩ 1 1 [.int .u32 (Z:Int)] rfl rfl (Q3c (wr.drewN nq) #[.int .u32 (Z:Int)] _ _) (Qa1 _ _) (i+1) rfl (by omega) (by omega) ?_;intro a3 c3 w3 Y7 Z8 M0 R5;have HO:=Xh2 Y7 M0;clear Y7 Z8 M0 R5)
    refine ⟨⟨i+1,1,L++[Z],a3,c3,rfl,rfl,by simp,Ue _,by omega,?_,by simp[F5],Qeu (Xe4 HH) Yz,(Xo0 HH),(Xe1 HO)⟩,by simp only[intOf];omega⟩;rw[Tq];exact (Xo0 HO)
   ·have hltI:¬(x:Int)<(S:Int):=(by omega);obtain rfl:cr'=0:=(by omega);have hZI:(x:Int)-(S:Int)=(Z:Int):=by omega
    go_wp2_with fail
    go_quiet (first|(refine Calls.quiet_of (hd _ ?_);rfl))
    go_wp2_with (at_builtin;refine Q0q rfl (.tmp 31) (.tmp 36) 85 rfl w _ 150 i0 _ 1 4 Tryz.underlying85 (Xo0 HI) (Xo1 HI) (Xo2 HI) (Xe3 HI) rfl (by decide) w.heap.size ((Xo2 HH) _ _) ((Xo3 HH) _ _) ao i co _ rfl ((Xo1 HH) _ _) ⟨(wr.drewN nq).heap.size,0,none⟩ 1 1 [.int .u32 (Z:Int)] rfl rfl (Q3c (wr.drewN nq) #[.int .u32 (Z:Int)] _ _) (Qa1 _ _) (i+1) rfl (by omega) (by omega) ?_;intro a3 c3 w3 Y7 Z8 M0 R5;have HO:=Xh2 Y7 M0;clear Y7 Z8 M0 R5)
    refine ⟨⟨i+1,0,L++[Z],a3,c3,rfl,rfl,by simp,Uv _,by omega,?_,by simp[F5],Qeu (Xe4 HH) Yz,(Xo0 HH),(Xe1 HO)⟩,by simp only[intOf];omega⟩;rw[Tq];exact (Xo0 HO)
def bnd (T:Nat) (d:Dyadic):Prop:=∃m:Int,d=dy m (-(T:Int))/\m.natAbs<2^(2*T)
theorem Qt1 (T:Nat):bnd T 0:=⟨0,(Q4m _).symm,by simpa using Tn (n:=2*T) (by decide:0<2)⟩
theorem Q5g (m:Int) (k:Nat):(m*2^k).natAbs=m.natAbs*2^k:=by
 rw[Int.natAbs_mul];have:((2:Int)^k)=((2^k:Nat):Int):=by simp
 rw[this,Int.natAbs_natCast]
theorem bnd.more {T S:Nat} {d:Dyadic} (h:bnd T d) (hS:T<=S):bnd S d:=by
 obtain ⟨m,rfl,hm⟩:=h;obtain ⟨k,rfl⟩:∃k,S=T+k:=⟨S-T,by omega⟩;refine ⟨m*2^k,?_,?_⟩
 ·have:=Q88 m (-((T+k:Nat):Int)) k;rw[<-this]
  congr 1
  omega
 ·rw[Q5g,show 2*(T+k)=2*T+k+k by omega,To,To];have h1:1<=2^k:=Tn (by decide)
  calc m.natAbs*2^k<2^(2*T)*2^k:=TJ hm (by omega)
   _<=2^(2*T)*2^k*2^k:=Nat.le_mul_of_pos_right _ (by omega)
theorem bnd.add {T:Nat} {a b:Dyadic} (ha:bnd T a) (hb:bnd T b):bnd (T+1) (a+b):=by
 obtain ⟨m,rfl,hm⟩:=ha;obtain ⟨k,rfl,hk⟩:=hb;refine ⟨(m+k)*2^1,?_,?_⟩
 ·rw[Qdr,<-Q88 (m+k) (-((T+1:Nat):Int)) 1]
  congr 1
  omega
 ·rw[Q5g,show 2*(T+1)=2*T+2 by omega,To];have:=Int.natAbs_add_le m k;generalize 2^(2*T)=X at*;omega
theorem bnd.neg {T:Nat} {a:Dyadic} (ha:bnd T a):bnd T (-a):=by
 obtain ⟨m,rfl,hm⟩:=ha;exact ⟨-m,Qgd m _,by rw[Int.natAbs_neg];exact hm⟩
theorem Q6q {d:Dyadic} {T:Nat} (h:Q6i d) (hT:69632<=T):bnd T d:=by
 rcases h with rfl|⟨m,e,rfl,_,hm,h1,h2⟩
 ·exact Qt1 T
 obtain ⟨k,hk⟩:∃k:Nat,e= -(T:Int)+k:=⟨(e+T).toNat,by omega⟩;have hkT:k<=65536+T:=by omega
 refine ⟨m*2^k,by rw[hk,Q88],?_⟩;rw[Q5g];have h3:(2^64)^64=2^(64*64):=(TW 2 64 64).symm;rw[h3] at hm;obtain ⟨s,hs⟩:∃s,64*64=s:=⟨_,rfl⟩;rw[hs] at hm
 calc m.natAbs*2^k<2^s*2^k:=TJ hm (Tn (by decide))
  _=2^(s+k):=(To 2 s k).symm
  _<=2^(2*T):=UN (by decide) (by omega)
theorem Qc7 {a b e:Int} (h:dy a e=dy b e):a=b:=by
 have h1:=congrArg Dyadic.toRat h;rw[Q7c,Q7c] at h1;have h2:((2:Rat)^e)≠0:=by
  intro h0;have h4:dy 1 e≠0:=Qj3 (by decide);refine h4 ?_;rw[<-Dyadic.toRat_inj,Q7c,h0];simp
 generalize (2:Rat)^e=x at h1 h2;have h3:(a:Rat)=(b:Rat):=by grind
 exact Rat.intCast_inj.1 h3
theorem Qq2 {neg:Bool} {v T:Nat} {e:Int} (hv:v%2=1) (h:bnd T (dy (sgn neg v) e)): -(T:Int)<=e/\e<=T/\v<2^(2*T):=by
 obtain ⟨m,hd,hm⟩:=h;have Vb:=Q4n (neg:=neg) hv;have he: -(T:Int)<=e:=by
  refine Int.not_lt.1 fun F0=>?_;obtain ⟨k,hk⟩:∃k:Nat,-(T:Int)=e+((k+1:Nat):Int):=⟨(-(T:Int)-e).toNat-1,by omega⟩;rw[hk,Q88] at hd;have h1:=Qc7 hd;rw[h1,Int.pow_succ,<-Int.mul_assoc] at Vb;omega
 obtain ⟨k,hk⟩:∃k:Nat,e= -(T:Int)+k:=⟨(e+T).toNat,by omega⟩;rw[hk,Q88] at hd;have h1:=Qc7 hd;have h2:=congrArg Int.natAbs h1;rw[Q5g,Qa2] at h2;rw[<-h2] at hm;have S3:1<=2^k:=Tn (by decide);have D8:1<=v:=by omega
 refine ⟨he,?_,TP (Nat.le_mul_of_pos_right v (by omega)) hm⟩;have h3:2^k<2^(2*T):=TP (Nat.le_mul_of_pos_left _ (by omega)) hm;have h4:=(Nat.pow_lt_pow_iff_right (a:=2) (by decide)).1 h3;omega
theorem Q8l {neg:Bool} {v T k:Nat} {e:Int} (hc:Q3j neg v e) (h:bnd T (dy (sgn neg v) e)) (hk:2*T<=32*k):(dig (2^32) v).length<=k/\-(T:Int)<=e/\e<=T:=by
 by_cases h0:v=0
 ·obtain ⟨_,rfl⟩:=hc.1 h0;subst h0;rw[Q14];exact ⟨Uv _,by omega,by omega⟩
 ·obtain ⟨h1,h2,h3⟩:=Qq2 (hc.2 h0) h;refine ⟨Q32 (by decide) (Uc h3 ?_),h1,h2⟩;rw[<-TW];exact UN (by decide) hk
end Go.Proofs.YtidojbkhlenahaaGreatDoor
namespace Go.Proofs.YtidojbkhlenahaaGreatDoor
open Go Go.RowKit
section
variable {P:Program} {ops:Array Oper}
theorem Q0y {D:Nat->Bool} {k j:Nat} {oj:Oper} (F1:∀j oj,ops[j]?=some oj->D j=true->∀i∈Q20 oj,D i=true) (hj:ops[j]?=some oj) (hk:k∈Q20 oj) (hD:D k=false):D j=false:=by
 cases hb:D j with
 |false=>rfl
 |true=>have:=F1 j oj hj hb k hk;rw[hD] at this;cases this
theorem Q9f {l:List Oper} {x y:Nat} (hl:(l.zipIdx.all fun p=>p.1.dst.isSome || (p.2==x || p.2==y))=true) {i:Nat} {o:Oper} (hi:l[i]?=some o) (hd:o.dst=none):i=x∨i=y:=by
 have hm:(o,i)∈l.zipIdx:=by rw[TO];exact hi
 have h1:=Ts.1 hl _ hm;simpa[hd] using h1
def Q62 (P:Program) (ops:Array Oper) (I:Qji) (a0:Act) (k:Nat) (o:Oper):Prop:=
 ∀a w D,I D (Q09 ops a) w->Q7h ops a0 a->D k=false->(∀i∈Q20 o,D i=true)->(∀j oj,ops[j]?=some oj->D j=true->∀i∈Q20 oj,D i=true)->
  Region.wanted o (yielded ops a.tmps)=true/\Q0r P (fun u w'=>I (Q1x D k) (Q24 (Q09 ops a) k u) w') ((execOp a.eval o).run P w)
def Q84 (P:Program) (ops:Array Oper) (I:Qji) (a0:Act):List Oper->Nat->Prop:=Qjh (Q62 P ops I a0)
theorem Qvq {I:Qji} {a0:Act} (k:Nat) (o:Oper) (h:Q62 P ops I a0 k o):Q9c P ops I a0 k o:=fun a w D h1 h2 h3 h4 h5=>by
 obtain ⟨hw,hs⟩:=h a w D h1 h2 h3 h4 h5;rw[Uu hw];exact hs
variable {Q:Exit->Act->World->Prop}
theorem Q73 {id:Nat} {l:List Oper} {a0:Act} {w:World} (hm:P.follows .mixedOrders=true) (I:Qji) (hN:∀(i:Nat) o,l[i]?=some o->o.dst=none->∀D vs v w,I D (Q24 vs i v) w->I D vs w) (hB:Q7i l a0.tmps.size=true) (h0:I (fun _=>false) (Q09 l.toArray a0) w.drew)
 (step:Q84 P l.toArray I a0 l 0) (fin:∀D vs w,(∀j,j<l.length->D j=true)->I D vs w->Q .normal (Q0t vs l 0 a0) w):(Code.region id l.toArray true).wp P Q a0 w:=
 Q7j hm I (fun i o hi hd D vs v w _=>hN i o hi hd D vs v w) hB h0 (Qjh.imp Qvq l 0 step) fin
theorem Q2i {id:Nat} {l:List Oper} {a0:Act} {w:World} (hm:P.follows .mixedOrders=true) (I:Qji) (hN:∀(i:Nat) o,l[i]?=some o->o.dst=none->∀D vs v w,I D (Q24 vs i v) w->I D vs w) (hB:Q7i l a0.tmps.size=true) (h0:∀vs,I (fun _=>false) vs w.drew)
 (step:Q84 P l.toArray I a0 l 0) (fin:∀D vs w,(∀j,j<l.length->D j=true)->I D vs w->Q .normal (Q0t vs l 0 a0) w):(Code.region id l.toArray true).wp P Q a0 w:=
 Q73 hm I hN hB (h0 _) step fin
end
section
variable {P:Program}
def Qle (l:List Oper) (n:Nat):Bool:=(List.range n).all fun k=>(List.range (n+1)).any fun j=>decide (k<j) && (match l[j]? with|some o=>(Q20 o).contains k|none=>false)
theorem Qc8 {l:List Oper} {n:Nat} (h:Qle l n=true) {D:Nat->Bool} (F1:∀j oj,l[j]?=some oj->D j=true->∀i∈Q20 oj,D i=true):∀m k,n-k=m->k<=n->D k=false->D n=false:=by
 intro m
 induction m using Nat.strongRecOn with
 |ind m ih=>
  intro k hm hk hD
  by_cases WB:k=n
  ·subst WB;exact hD
  ·have h1:=Ts.1 h k (by rw[List.mem_range];omega);obtain ⟨j,hj,h2⟩:=Xba.1 h1;rw[List.mem_range] at hj;rw[Xad,TU] at h2;obtain ⟨h3,h4⟩:=h2;cases Ku:l[j]? with
   |none=>rw[Ku] at h4;cases h4
   |some oj=>
    rw[Ku] at h4;have h5:k∈Q20 oj:=(by simpa using h4);have hDj:D j=false:=by
     cases hb:D j with
     |false=>rfl
     |true=>have:=F1 j oj Ku hb k h5;rw[hD] at this;cases this
    exact ih (n-j) (by omega) j rfl (by omega) hDj
def Qt2 (P:Program) (ops:Array Oper) (C:World->Prop) (V:Nat->Value->World->Prop) (a0:Act) (Fin:World->Prop):List Oper->Prop
 |[o]=>∀a w,C w->Q7h ops a0 a->(∀i∈Q20 o,V i (Q09 ops a i) w)->Q0r P (fun _ w'=>Fin w') ((execOp a.eval o).run P w)
 |_=>False
theorem Q1y {Q:Exit->Act->World->Prop} {id:Nat} {l:List Oper} {a0:Act} {w:World} (hm:P.follows .mixedOrders=true) (n:Nat) (hn:l.length=n+1) (C:World->Prop) (hC:∀w w',C w->Bw w w'->C w') (V:Nat->Value->World->Prop) (hV:∀i v w w',V i v w->Bw w w'->V i v w') (Fin:World->Prop)
 (hB:Q7i l a0.tmps.size=true) (hA:Qle l n=true) (hG:(l.all fun o=>o.guard.isNone)=true) (hD:(l.zipIdx.all fun p=>p.1.dst.isSome || decide (p.2=n))=true) (h0:C w.drew)
 (step:Q3g P Q7l l.toArray C V a0 (l.take n) 0) (last:Qt2 P l.toArray C V a0 Fin (l.drop n)) (fin:∀vs w,Fin w->Q .normal (Q0t vs l 0 a0) w):(Code.region id l.toArray true).wp P Q a0 w:=by
 have U5:∀(k:Nat) (o:Oper),l[k]?=some o->∀y,Region.wanted o y=true:=fun k o ho y=>by
  have h1:=Ts.1 hG o (Ug ho);unfold Region.wanted;cases hg:o.guard with
  |none=>rfl
  |some g=>rw[hg] at h1;cases h1
 have C4:∀(D:Nat->Bool) (vs:Nat->Value) (i:Nat) (o:Oper) (v:Value) (w:World),l[i]?=some o->o.dst=none->(if D n=true then Fin w else (C w/\∀j,D j=true->V j (Q24 vs i v j) w))->(if D n=true then Fin w else (C w/\∀j,D j=true->V j (vs j) w)):=by
  intro D vs i o v w hi hd h;have S9:i=n:=by
   have hm:(o,i)∈l.zipIdx:=(by rw[TO];exact hi);have h1:=Ts.1 hD _ hm;simpa[hd] using h1
  subst S9
  split at h
  ·rename_i i7;rw[Uu i7];exact h
  ·rename_i i7;rw[Uq i7];refine ⟨h.1,fun j hj=>?_⟩;have:=h.2 j hj;unfold Q24 at this;rwa[Uq (fun e=>by subst e;exact i7 hj)] at this
 have A1:∀(k:Nat) (o:Oper),l[k]?=some o->Q62 P l.toArray (fun D vs w=>if D n=true then Fin w else (C w/\∀j,D j=true->V j (vs j) w)) a0 k o:=by
  intro k o ho a w D hI E0 hk p5 F1;have WB:k<=n:=by have:=(Uh.1 ho).1;omega
  have i7:D n=false:=Qc8 hA (D:=D) (fun j oj hj=>F1 j oj (by simpa using hj)) _ k rfl WB hk;have hDn':¬D n=true:=by rw[i7];decide
  simp only[i7] at hI;obtain ⟨Zf,KD⟩:=hI;have Zd:∀i∈Q20 o,V i (Q09 l.toArray a i) w:=fun i hi=>KD i (p5 i hi);refine ⟨U5 k o ho _,?_⟩
  by_cases M9:k=n
  ·subst M9;have F6:l.drop k=[o]:=by
    rw[UQ (by omega),Tm (by omega)];rw[(Uh.1 ho).2]
   rw[F6] at last;have h1:=last a w Zf E0 Zd;have hK:∀u w',Fin w'->(if Q1x D k k=true then Fin w' else (C w'/\∀j,Q1x D k j=true->V j (Q24 (Q09 l.toArray a) k u j) w')):=fun u w' h=>by rw[Q27,Uu rfl];exact h
   revert h1
   generalize (execOp a.eval o).run P w=res;intro h1;cases res with
   |ok x w'=>
    cases x with
    |value u=>exact hK u w' h1
    |enter f args=>
     refine Xa6 h1 ?_;rintro e w'' ⟨v,rfl,hf⟩;exact ⟨v,rfl,hK v w'' hf⟩
    |skip=>exact hK undef w' h1
    |_=>exact h1.elim
   |halt x w'=>exact h1.elim
  ·have y8:(l.take n)[k]?=some o:=(by rw[Ty,Uu (by omega)];exact ho);have h1:=Q3g.at_ _ _ _ _ step y8;rw[UH] at h1;have h1:=h1 a w Zf E0 Zd;rw[Uu (U5 k o ho _)] at h1;have hK:∀u w',Bw w w'->V k u w'->(if Q1x D k n=true then Fin w' else (C w'/\∀j,Q1x D k j=true->V j (Q24 (Q09 l.toArray a) k u j) w')):=fun u w' hb hu=>by
    have e:Q1x D k n=false:=(by unfold Q1x;rw[Uq (fun e=>M9 e.symm)];exact i7);rw[e,Uq (by decide)];refine ⟨hC _ _ Zf hb,fun j hj=>?_⟩;unfold Q24;unfold Q1x at hj
    by_cases QG:j=k
    ·subst QG;rw[Uu rfl];exact hu
    ·rw[Uq QG];rw[Uq QG] at hj;exact hV _ _ _ _ (KD j hj) hb
   revert h1
   generalize (execOp a.eval o).run P w=res;intro h1;cases res with
   |ok x w'=>
    cases x with
    |value u=>exact hK u w' h1.1 h1.2
    |enter f args=>
     refine Xa6 h1 ?_;rintro e w'' ⟨v,rfl,hb,hv⟩;exact ⟨v,rfl,hK v w'' hb hv⟩
    |skip=>exact hK undef w' h1.1 h1.2
    |_=>exact h1.elim
   |halt x w'=>exact h1.elim
 have QN:∀(r:List Oper) (k:Nat),(∀(i:Nat) o,r[i]?=some o->l[k+i]?=some o)->Q84 P l.toArray (fun D vs w=>if D n=true then Fin w else (C w/\∀j,D j=true->V j (vs j) w)) a0 r k:=by
  intro r
  induction r with
  |nil=>intro k _;trivial
  |cons o r ih=>
   intro k h;refine ⟨A1 k o (by simpa using h 0 o rfl),ih (k+1) fun i o' Qe=>?_⟩;have:=h (i+1) o' (by simpa using Qe);rwa[show k+(i+1)=k+1+i by omega] at this
 refine Q2i hm (fun D vs w=>if D n=true then Fin w else (C w/\∀j,D j=true->V j (vs j) w)) (fun i o hi hd D vs v w h=>C4 D vs i o v w hi hd h) hB (fun vs=>?_) (QN l 0 fun i o h=>by rw[UH];exact h) (fun D vs w A1 h=>?_)
 ·exact ⟨h0,fun j hj=>by cases hj⟩
 ·have i7:=A1 n (by omega);simp only[i7,if_true] at h;exact fin vs w h
end
end Go.Proofs.YtidojbkhlenahaaGreatDoor
namespace Go.Proofs.YtidojbkhlenahaaGreatDoor
open Go.RowKit WordsM
def Q5c (w:World) (u:Value) (D:Dyadic):Prop:=∃n a l c e v,u=.agg #[.bool n,.slice a l c,.int .i64 e]/\Q0v w a l c v/\Q3j n v e/\dy (sgn n v) e=D
theorem Q5c.step {w w':World} {u:Value} {D:Dyadic} (h:Q5c w u D) (hb:Bw w w'):Q5c w' u D:=by
 obtain ⟨n,a,l,c,e,v,rfl,h1,h2,h3⟩:=h;exact ⟨n,a,l,c,e,v,rfl,h1.step hb,h2,h3⟩
def Qe0 (w:World) (D:Dyadic) (r:Ending) (w':World):Prop:=∃u,r=.returned u/\Q5c w' u D/\Bw w w'
theorem Q0v.box3 {w:World} {a:OA} {n c v r:Nat} {v0 v1 v2:Value} (h:Q0v w a n c v) (hN:Q03 w r v0 v1 v2) (h0:∀x:Nat,v0≠nv .u32 x) (h1:∀x:Nat,v1≠nv .u32 x) (h2:∀x:Nat,v2≠nv .u32 x) (u0 u1 u2:Value):
 Q0v (((w.setCell ⟨r,0,none⟩ u0).setCell ⟨r,1,none⟩ u1).setCell ⟨r,2,none⟩ u2) a n c v:=
 ⟨h.len,h.cap,h.most,(h.rd.store3 hN h0 h1 h2 u0 u1 u2).more (Q1s _ _ _ _ _)⟩
theorem Q0v.box {w:World} {a:OA} {n c v r:Nat} {b0:Bool} {a0:OA} {n0 c0:Nat} {e0:Int} (h:Q0v w a n c v) (hN:Q03 w r (.bool b0) (.slice a0 n0 c0) (.int .i64 e0)) (u0 u1 u2:Value):
 Q0v (((w.setCell ⟨r,0,none⟩ u0).setCell ⟨r,1,none⟩ u1).setCell ⟨r,2,none⟩ u2) a n c v:=
 h.box3 hN (fun _=>by simp[nv]) (fun _=>by simp[nv]) (fun _=>by simp[nv]) u0 u1 u2
theorem Q2p {P:Program} {Fin:World->Prop} {w':World} {res:Result Next} (hr:res=.ok .skip w') (h:Fin w'):Q0r P (fun _ w=>Fin w) res:=by rw[hr];exact h
def Q13:List (Nat × (Value->World->Prop))->Nat->Option (Value->World->Prop)
 |[],_=>none
 |(i,φ)::r,x=>if x=i then some φ else Q13 r x
def Q2d (φ:Value->World->Prop):Prop:=∀v w w',φ v w->Bw w w'->φ v w'
theorem Q0e:∀{l:List (Nat × (Value->World->Prop))},(∀p∈l,Q2d p.2)->∀i φ,Q13 l i=some φ->∀v w w',φ v w->Bw w w'->φ v w'
 |[],_,i,φ,h=>by cases h
 |(j,ψ)::r,hs,i,φ,h=>by
  unfold Q13 at h
  split at h
  ·injection h with h;subst h;exact hs (j,ψ) (by simp)
  ·exact Q0e (fun p hp=>hs p (by simp[hp])) i φ h
def SlD (k v:Nat) (u:Value) (w:World):Prop:=∃a n c,u=.slice a n c/\n<=k/\Q0v w a n c v
theorem SlD.stable (k v:Nat):Q2d (SlD k v):=fun u w w' h hb=>by
 obtain ⟨a,n,c,rfl,h1,h2⟩:=h;exact ⟨a,n,c,rfl,h1,h2.step hb⟩
theorem Q1g (D:Dyadic):Q2d (fun u w=>Q5c w u D):=fun _ _ _ h hb=>h.step hb
theorem Qvr {i:Nat} {φ:Value->World->Prop} (h:Q2d φ):∀p∈[(i,φ)],Q2d p.2:=fun p hp=>by rw[Uy] at hp;subst hp;exact h
theorem Qjn {i j:Nat} {φ ψ:Value->World->Prop} (h:Q2d φ) (h':Q2d ψ):∀p∈[(i,φ),(j,ψ)],Q2d p.2:=fun p hp=>by
 rcases UD.1 hp with rfl|hp
 ·exact h
 ·exact Qvr h' p hp
theorem Qt3 {i j k:Nat} {φ ψ χ:Value->World->Prop} (h:Q2d φ) (h':Q2d ψ) (h'':Q2d χ):∀p∈[(i,φ),(j,ψ),(k,χ)],Q2d p.2:=fun p hp=>by
 rcases UD.1 hp with rfl|hp
 ·exact h
 ·exact Qjn h' h'' p hp
theorem Qt4 {i j k l:Nat} {φ ψ χ ω:Value->World->Prop} (h:Q2d φ) (h':Q2d ψ) (h'':Q2d χ) (h3:Q2d ω):∀p∈[(i,φ),(j,ψ),(k,χ),(l,ω)],Q2d p.2:=fun p hp=>by
 rcases UD.1 hp with rfl|hp
 ·exact h
 ·exact Qt3 h' h'' h3 p hp
def Qvs (w:World) (r:Nat) (D:Dyadic) (W:World):Prop:=∃n a l c e v,Q03 W r (.bool n) (.slice a l c) (.int .i64 e)/\Q0v W a l c v/\Q3j n v e/\dy (sgn n v) e=D/\Bw w W
theorem Q4z {w W:World} {r:Nat} {D:Dyadic} {b0:Bool} {a0:OA} {n0 c0:Nat} {e0:Int} (hr:w.heap.size<=r) (hb:Bw w W) (hN:Q03 W r (.bool b0) (.slice a0 n0 c0) (.int .i64 e0)) {n:Bool} {a:OA} {l c v:Nat} {e:Int} (hd:Q0v W a l c v) (hc:Q3j n v e) (hD:dy (sgn n v) e=D):
 Qvs w r D (((W.setCell ⟨r,0,none⟩ (.bool n)).setCell ⟨r,1,none⟩ (.slice a l c)).setCell ⟨r,2,none⟩ (.int .i64 e)):=
 ⟨n,a,l,c,e,v,hN.store _ _ _,hd.box hN _ _ _,hc,hD,Q03.below hb hr _ _ _⟩
theorem Q0v.none_of {w:World} {a:OA} {n c v:Nat} (h:Q0v w a n c v) (h0:v=0):n=0:=by rw[<-h.len,h0,Q14];rfl
theorem Q0v.zero_of {w:World} {a:OA} {n c v:Nat} (h:Q0v w a n c v) (h0:n=0):v=0:=(Q51 (B:=2^32) (by decide)).1 (UC.1 (by rw[h.len,h0]))
theorem Qt5 {w:World} {a:OA} {n c v:Nat} (h:Q0v w a n c v):n<=9223372036854775807:=Uj h.cap h.most
theorem Qc9 {neg:Bool} {e:Int} {L:LN} (h:Q0a neg e L) (hl:Low (2^64) L):Q3j neg (val (2^64) L) e:=by
 rcases Q1f h hl with ⟨rfl,hn,he⟩|⟨_,ho,_⟩
 ·exact ⟨fun _=>⟨hn,he⟩,fun h=>absurd rfl h⟩
 ·exact ⟨fun e=>(by rw[e] at ho;cases ho),fun _=>ho⟩
theorem Qjo {u v k:Nat} (h1:(dig (2^32) v).length<=k) (h2:(dig (2^32) u).length+1<=k+1):(dig (2^32) (v+u)).length<=k+1:=by
 have g1:=Q3d (B:=2^32) (by decide) (dig (2^32) v) (Q29 (by decide) v);have g2:=Q3d (B:=2^32) (by decide) (dig (2^32) u) (Q29 (by decide) u);rw[Q10 (by decide)] at g1 g2;have g3:=Uc g1 (UN (by decide:0<2^32) h1);have g4:=Uc g2 (UN (by decide:0<2^32) (by omega:(dig (2^32) u).length<=k));refine Q32 (by decide) ?_;rw[Tb];generalize (2^32)^k=K at*;omega
theorem Qa8 (neg:Bool) {v:Nat} (e:Int) (h:v=0):dy (sgn neg v) e=0:=by subst h;rw[Q2z];exact Q4m e
theorem Q9g {v k j:Nat} (h0:v≠0) (h:Q71 v k) (h':Q71 v j):k=j:=by
 have key:∀{a b:Nat},Q71 v a->Q71 v b->¬a<b:=fun {a b} h1 h2 F0=>by
  have h3:=(h2.2 h0).1;have h4:=h1.1;have h5:2^a<=2^(b-1):=UN (by decide) (by omega);omega
 have:=key h h';have:=key h' h;omega
theorem Qvt (x:Int) (w:World):Calls Tryz.prog 204 #[.int .i64 x] w fun e w'=>e=.returned (.bool false)/\w=w':=by
 go_enter Tryz.func204,Tryz.ntmps204
 go_wp2_with fail
 go_ret;exact ⟨by simp,rfl⟩
theorem Qq3 (x y:Int) (w:World):Calls Tryz.prog 148 #[.int .i64 x,.int .i64 y] w fun e w'=>e=.returned (.int .i64 (Lib.compareInt x y))/\w=w':=by
 have hn:=fun x=>Qvt x w
 by_cases h1:x<y
 ·go_enter Tryz.func148,Tryz.ntmps148
  go_wp2_with (refine (hn _).mono ?_;rintro e w1 ⟨rfl,rfl⟩)
  go_ret;exact ⟨by simp[Lib.compareInt,h1],rfl⟩
 ·by_cases h2:y<x
  ·go_enter Tryz.func148,Tryz.ntmps148
   go_wp2_with (refine (hn _).mono ?_;rintro e w1 ⟨rfl,rfl⟩)
   go_ret;exact ⟨by rw[Lib.compareInt,Uq (by omega),Uu (by omega)];rfl,rfl⟩
  ·go_enter Tryz.func148,Tryz.ntmps148
   go_wp2_with (refine (hn _).mono ?_;rintro e w1 ⟨rfl,rfl⟩)
   go_ret;exact ⟨by rw[Lib.compareInt,Uq (by omega),Uq (by omega)];rfl,rfl⟩
theorem Q55 (x y:Int):(Lib.compareInt x y<0↔x<y)/\(0<Lib.compareInt x y↔y<x):=by
 unfold Lib.compareInt
 split
 ·omega
 ·split <;> omega
theorem Quz {Φ P:World->Prop} (W:World) (hW:Φ W) (h:∀U,Φ U->P U):P W:=h W hW
def WdE (v:Nat):Value->World->Prop:=fun u W=>∃a n c,u=.slice a n c/\WordsIn W a n c (dig (2^64) v)
theorem Qe1 (v:Nat):Q2d (WdE v):=fun _ _ _ ⟨a,n,c,h1,h2⟩ hb=>⟨a,n,c,h1,h2.step hb⟩
def SgE (p q:Nat):Value->World->Prop:=fun u _=>∃r:Int,u=.int .i64 r/\(r<0↔p<q)/\(0<r↔q<p)/\-1<=r/\r<=1
theorem Q85 (p q:Nat):Q2d (SgE p q):=fun _ _ _ h _=>h
structure Qq4 (w W:World) (nx:Bool) (ex:Int) (ax:OA) (lx cx:Nat) (ls:LN) (ny:Bool) (ey:Int) (ay:OA) (ly cy:Nat) (ks:LN):Prop where
 x:Q03 W w.heap.size (.bool nx) (.int .i64 ex) (.slice ax lx cx)
 y:Q03 W (w.heap.size+1) (.bool ny) (.int .i64 ey) (.slice ay ly cy)
 wx:WordsIn W ax lx cx ls
 wy:WordsIn W ay ly cy ks
 lt:w.heap.size+1<W.heap.size
 bel:Bw w W
section
variable {w W W':World} {nx ny:Bool} {ex ey:Int} {ax ay:OA} {lx cx ly cy:Nat} {ls ks:LN}
theorem Qq4.step (h:Qq4 w W nx ex ax lx cx ls ny ey ay ly cy ks) (hb:Bw W W'):Qq4 w W' nx ex ax lx cx ls ny ey ay ly cy ks:=by
 have hl:=h.lt;exact ⟨h.x.step hb (by omega),h.y.step hb (by omega),h.wx.step hb,h.wy.step hb,Uc hl hb.size,Below.next0 h.bel hb⟩
theorem Qq4.new (h1:WordsIn w ax lx cx ls) (h2:WordsIn w ay ly cy ks) (T1 T2:TypeId):Qq4 w ((w.alloc (.cells #[.bool nx,.int .i64 ex,.slice ax lx cx] T1)).alloc (.cells #[.bool ny,.int .i64 ey,.slice ay ly cy] T2)) nx ex ax lx cx ls ny ey ay ly cy ks:=by
 obtain ⟨hs,hX,hY,hB⟩:=Q89 w (.bool nx) (.int .i64 ex) (.slice ax lx cx) (.bool ny) (.int .i64 ey) (.slice ay ly cy) T1 T2;exact ⟨hX,hY,h1.step hB,h2.step hB,by omega,hB⟩
end
theorem Qfd (nx:Bool) (ex:Int) (ax:OA) (lx cx:Nat) (ls:LN) (ny:Bool) (ey:Int) (ay:OA) (ly cy:Nat) (ks:LN) (w:World) (h1:WordsIn w ax lx cx ls) (h2:WordsIn w ay ly cy ks) (hn:lx<=20000) (hm:ly<=20000) (Wl: -1000000<=ex) (Q5:ex<=1000000) (j3: -1000000<=ey) (U3:ey<=1000000) (v1:val (2^64) ls≠0) (v2:val (2^64) ks≠0):
 Calls Tryz.prog 98 #[.agg #[.bool nx,.int .i64 ex,.slice ax lx cx],.agg #[.bool ny,.int .i64 ey,.slice ay ly cy]] w fun r w'=>(∃s,r=.returned (.int .i64 s)/\Q3x s (dy (val (2^64) ls:Int) ex) (dy (val (2^64) ks:Int) ey)/\-1<=s/\s<=1)/\Bw w w':=by
 obtain ⟨W0,M1⟩:∃W0,(w.alloc (.cells #[.bool nx,.int .i64 ex,.slice ax lx cx] 26)).alloc (.cells #[.bool ny,.int .i64 ey,.slice ay ly cy] 26)=W0:=⟨_,rfl⟩;have hQ:Qq4 w W0 nx ex ax lx cx ls ny ey ay ly cy ks:=by rw[<-M1];exact Qq4.new h1 h2 _ _
 obtain ⟨p,hp,x7⟩:∃p,Q71 (val (2^64) ls) p/\p<=64*lx:=by
  have h3:=Uc (Q3d (B:=2^64) (by decide) ls h1.low) (Nat.le_of_eq (by rw[h1.len,<-TW]));have h4:=Q4b (64*lx) _ h3;exact ⟨_,h4,Q4d _ _⟩
 obtain ⟨q,hq,Ya⟩:∃q,Q71 (val (2^64) ks) q/\q<=64*ly:=by
  have h3:=Uc (Q3d (B:=2^64) (by decide) ks h2.low) (Nat.le_of_eq (by rw[h2.len,<-TW]));exact ⟨_,Q4b (64*ly) _ h3,Q4d _ _⟩
 have hbp:∀W,Bw W0 W->Calls Tryz.prog 145 #[.slice ax lx cx] W fun e w'=>e=.returned (.int .i64 (p:Int))/\Bw W w':=fun W hW=>(Qgx ax lx cx ls W (hQ.step hW).wx (by omega)).mono (by
  rintro e w' ⟨⟨k,rfl,hk,_⟩,hb⟩;rw[Q9g v1 hk hp];exact ⟨rfl,hb⟩)
 have S7:∀W,Bw W0 W->Calls Tryz.prog 145 #[.slice ay ly cy] W fun e w'=>e=.returned (.int .i64 (q:Int))/\Bw W w':=fun W hW=>(Qgx ay ly cy ks W (hQ.step hW).wy (by omega)).mono (by
  rintro e w' ⟨⟨k,rfl,hk,_⟩,hb⟩;rw[Q9g v2 hk hq];exact ⟨rfl,hb⟩)
 obtain ⟨P,hP⟩:∃P,(p:Int)+ex=P:=⟨_,rfl⟩;obtain ⟨Q,hQQ⟩:∃Q,(q:Int)+ey=Q:=⟨_,rfl⟩;have hwp:IntKind.i64.wrap ((p:Int)+ex)=P:=by rw[UY];omega
 have Xw:IntKind.i64.wrap ((q:Int)+ey)=Q:=by rw[UY];omega
 have HC:=Ua (fun W (hW:Bw W0 W)=>And.intro (hQ.step hW) (And.intro (hbp W hW) (S7 W hW)));have HV:=Xh6 hp hq v1 v2 hP hQQ;have HW:=Xh2 hwp Xw;clear hQ hbp S7 hp hq v1 v2 hP hQQ hwp Xw h1 h2
 go_enter Tryz.func98,Tryz.ntmps98
 go_upto_region 1 with fail
 clear M1;refine Q06 (E:=Q7l) (fun _=>Ud _ _) (by kernel_rfl) (fun W=>Bw W0 W) (fun _ _ h h'=>Below.next0 h h') (Q3q [.pointer (some ⟨w.heap.size,2,none⟩),.slice ax lx cx,.int .i64 (p:Int),.pointer (some ⟨w.heap.size,1,none⟩),.int .i64 ex,.int .i64 P,.pointer (some ⟨w.heap.size+1,2,none⟩),.slice ay ly cy,.int .i64 (q:Int),.pointer (some ⟨w.heap.size+1,1,none⟩),.int .i64 ey,.int .i64 Q,.int .i64 P,.int .i64 Q] (fun _=>none)) (Q08 (fun _ _ h=>by cases h)) (Q15 (by kernel_rfl)) (by kernel_rfl) (Q04 W0) ?_ ?_
 ·skip
  repeat' (first|exact Q83|refine Q82 ?_ ?_)
  all_goals
   refine Q1p rfl fun A W hW E0 hd hd=>?_;simp[Q72,Region.binds] at hd;have e2:=Q07 E0 2 (by kernel_rfl) rfl;have e3:=Q07 E0 3 (by kernel_rfl) rfl;have hc:=(HC.out W hW).1
   first
   |(refine Q12 rfl rfl ?_;simp[go_sem,hd,e2,e3,hc.x.c1,hc.x.c2,hc.y.c1,hc.y.c2,(Xo0 HW),(Xe1 HW)];done)
   |(refine Q2b rfl rfl ?_ (HC.out W hW).2.1;simp[go_sem,hd];done)
   |(refine Q2b rfl rfl ?_ (HC.out W hW).2.2;simp[go_sem,hd];done)
 intro vs W1 R1 A3;have e12:vs 12=.int .i64 P:=(Q0j rfl).1 (A3 12 (by decide));have e13:vs 13=.int .i64 Q:=(Q0j rfl).1 (A3 13 (by decide));simp only[Q0t,Act.put,Um,Ux,Ut,e12,e13];have HB:=Ua R1;clear R1 A3 e12 e13
 by_cases C1:P=Q
 case neg=>
  have hne':(P==Q)=false:=by rw[Uk];exact C1
  have HN:=Ua C1;clear C1
  go_wp2_with (go_at_call 148;refine (Qq3 P Q _).mono ?_;rintro e w2 ⟨rfl,rfl⟩)
  go_ret;refine ⟨⟨_,rfl,?_,?_⟩,Below.next0 (HC.out W0 (Ud _ _)).1.bel HB.out⟩
  ·obtain ⟨hp,hq,v1,v2,hP,hQ⟩:=HV.out;have:=HN.out;exact Qmo hp hq v1 v2 (by omega) (by rw[hP,hQ];exact Q55 P Q)
  ·unfold Lib.compareInt;split
   ·decide
   ·split <;> decide
 case pos=>
 have hne':(P==Q)=true:=by rw[beq_iff_eq];exact C1
 clear C1;have J1:=(HC.out W1 HB.out).1;have x1:=J1.x.c1;have y1:=J1.y.c1;have HD:=Ua (fun W (hW:Bw W1 W)=>J1.step hW);clear J1
 by_cases hgt:ey<ex
 ·obtain ⟨z,hz⟩:∃z:Nat,ex=ey+z:=⟨(ex-ey).toNat,by omega⟩;have ZI:IntKind.i64.wrap (ex-ey)=(z:Int):=by rw[UY];omega
  have Xl:∀W,Bw W1 W->Calls Tryz.prog 150 #[.slice ax lx cx,.int .i64 (z:Int)] W (Q8z W (val (2^64) ls*2^z)):=fun W hW=>Qc6 ax lx cx ls z W (HD.out W hW).wx (by omega) (by omega);obtain ⟨V,hV⟩:∃V,val (2^64) ls*2^z=V:=⟨_,rfl⟩;rw[hV] at Xl;have O0:64*(dig (2^64) V).length<=64*lx+z+63:=Qfa (by
   rw[<-hV,To];exact TJ (by have:=Q81 (HD.out W1 (Ud _ _)).wx.low;rwa[(HD.out W1 (Ud _ _)).wx.len] at this) (Tn (by decide)))
  have HU:=Xh4 Xl hV hz O0;clear Xl hV hz O0
  go_upto_region 5 with fail
  refine Quz (Φ:=fun U=>Bw W1 U) (P:=fun U=>Code.wp _ _ _ _ U) _ (Ud _ _) ?_;intro U hU;have HX:=Ua hU;clear hU x1 y1;refine Q06 (E:=Q7l) (fun _=>Ud _ _) (by kernel_rfl) (fun W=>Bw U W) (fun _ _ h h'=>Below.next0 h h') (Q3q [.pointer (some ⟨w.heap.size,2,none⟩),.slice ax lx cx,.pointer (some ⟨w.heap.size,1,none⟩),.int .i64 ex,.pointer (some ⟨w.heap.size+1,1,none⟩),.int .i64 ey,.int .i64 (z:Int),undef,.pointer (some ⟨w.heap.size+1,2,none⟩),.slice ay ly cy,undef,undef] (Q13 [(7,WdE V),(10,SgE V (val (2^64) ks)),(11,SgE V (val (2^64) ks))])) (Q08 (Q0e (Qt3 (Qe1 _) (Q85 _ _) (Q85 _ _)))) (Q15 (by kernel_rfl)) (by kernel_rfl) (Q04 U) ?_ ?_
  ·skip
   repeat' (first|exact Q83|refine Q82 ?_ ?_)
   all_goals first
    |(refine Q1p rfl fun A W hW E0 hd hd=>?_
      simp[Q72,Region.binds,Q13] at hd;have e2:=Q07 E0 2 (by kernel_rfl) rfl;have e3:=Q07 E0 3 (by kernel_rfl) rfl;have hc:=HD.out W (Below.next0 HX.out hW);refine Q12 rfl rfl ?_;simp[go_sem,hd,e2,e3,hc.x.c1,hc.x.c2,hc.y.c1,hc.y.c2,ZI]
      done)
    |skip
   ·intro A W hW E0 A0;have e31:=Q11 A0 1 (by decide) rfl rfl rfl;have e36:=Q11 A0 6 (by decide) rfl rfl rfl;refine Q02 rfl ?_;refine Q0s (f:=150) (args:= #[.slice ax lx cx,.int .i64 (z:Int)]) (by simp[go_sem,e31,e36]) (((Xo0 HU) W (Below.next0 HX.out hW)).mono ?_);rintro e w' ⟨a,n,c,rfl,hw,hb⟩;exact ⟨_,rfl,hb,(Q00 rfl).2 ⟨a,n,c,rfl,hw⟩⟩
   ·intro A W hW E0 A0;obtain ⟨a,n,c,ha,hw⟩:=(Q00 rfl).1 (A0 7 (by decide));have e37:=Q1o ha;have e39:=Q11 A0 9 (by decide) rfl rfl rfl;have hnl:n<=80000:=(by have h1:=hw.len;have h2:=(Xe3 HU);have h3:=(Xo2 HU);omega);refine Q02 rfl ?_;refine Q0s (f:=149) (args:= #[.slice a n c,.slice ay ly cy]) (by simp[go_sem,e37,e39]) ((Q8j a n c _ ay ly cy ks W hw (HD.out W (Below.next0 HX.out hW)).wy (by omega)).mono ?_);rintro e w' ⟨⟨r,rfl,h1,h2,h3⟩,hb⟩;rw[Q10 (by decide)] at h1 h2;exact ⟨_,rfl,hb,(Q00 rfl).2 ⟨r,rfl,h1,h2,h3⟩⟩
   ·intro A W hW E0 A0;obtain ⟨r,hr,h1⟩:=(Q00 rfl).1 (A0 10 (by decide));have e40:=Q1o hr;refine Q02 rfl ?_;refine Q6p (u:=.int .i64 r) (by simp[go_sem,e40]) ((Q00 rfl).2 ⟨r,rfl,h1⟩)
  intro vs W2 i5 A3;obtain ⟨r,hr,h3,h4⟩:=(Q00 rfl).1 (A3 11 (by decide));simp only[Q0t,Act.put,Um,Ux,Ut,hr];have HR:=Xh3 i5 h3 h4;clear i5 A3 hr h3 h4
  go_wp2_with fail
  go_ret;refine ⟨⟨r,rfl,?_,(Xe3 HR)⟩,Below.next0 (Below.next0 (Below.next0 (HC.out W0 (Ud _ _)).1.bel HB.out) HX.out) (Xo0 HR)⟩;obtain ⟨h0,h3,h4,_⟩:=HR.out;rw[Q99 (Xo2 HU)];have hc:(val (2^64) ls:Int)*2^z=(V:Int):=by rw[<-(Xo1 HU)];simp
  rw[hc];omega
 ·obtain ⟨z,hz⟩:∃z:Nat,ey=ex+z:=⟨(ey-ex).toNat,by omega⟩;have ZI:IntKind.i64.wrap (ey-ex)=(z:Int):=by rw[UY];omega
  have Xl:∀W,Bw W1 W->Calls Tryz.prog 150 #[.slice ay ly cy,.int .i64 (z:Int)] W (Q8z W (val (2^64) ks*2^z)):=fun W hW=>Qc6 ay ly cy ks z W (HD.out W hW).wy (by omega) (by omega);obtain ⟨V,hV⟩:∃V,val (2^64) ks*2^z=V:=⟨_,rfl⟩;rw[hV] at Xl;have HU:=Xh3 Xl hV hz;clear Xl hV hz
  go_upto_region 6 with fail
  refine Quz (Φ:=fun U=>Bw W1 U) (P:=fun U=>Code.wp _ _ _ _ U) _ (Ud _ _) ?_;intro U hU;have HX:=Ua hU;clear hU x1 y1;refine Q06 (E:=Q7l) (fun _=>Ud _ _) (by kernel_rfl) (fun W=>Bw U W) (fun _ _ h h'=>Below.next0 h h') (Q3q [.pointer (some ⟨w.heap.size,2,none⟩),.slice ax lx cx,.pointer (some ⟨w.heap.size+1,2,none⟩),.slice ay ly cy,.pointer (some ⟨w.heap.size+1,1,none⟩),.int .i64 ey,.pointer (some ⟨w.heap.size,1,none⟩),.int .i64 ex,.int .i64 (z:Int),undef,undef,undef] (Q13 [(9,WdE V),(10,SgE (val (2^64) ls) V),(11,SgE (val (2^64) ls) V)])) (Q08 (Q0e (Qt3 (Qe1 _) (Q85 _ _) (Q85 _ _)))) (Q15 (by kernel_rfl)) (by kernel_rfl) (Q04 U) ?_ ?_
  ·skip
   repeat' (first|exact Q83|refine Q82 ?_ ?_)
   all_goals first
    |(refine Q1p rfl fun A W hW E0 hd hd=>?_
      simp[Q72,Region.binds,Q13] at hd;have e2:=Q07 E0 2 (by kernel_rfl) rfl;have e3:=Q07 E0 3 (by kernel_rfl) rfl;have hc:=HD.out W (Below.next0 HX.out hW);refine Q12 rfl rfl ?_;simp[go_sem,hd,e2,e3,hc.x.c1,hc.x.c2,hc.y.c1,hc.y.c2,ZI]
      done)
    |skip
   ·intro A W hW E0 A0;have e44:=Q11 A0 3 (by decide) rfl rfl rfl;have e49:=Q11 A0 8 (by decide) rfl rfl rfl;refine Q02 rfl ?_;refine Q0s (f:=150) (args:= #[.slice ay ly cy,.int .i64 (z:Int)]) (by simp[go_sem,e44,e49]) (((Xo0 HU) W (Below.next0 HX.out hW)).mono ?_);rintro e w' ⟨a,n,c,rfl,hw,hb⟩;exact ⟨_,rfl,hb,(Q00 rfl).2 ⟨a,n,c,rfl,hw⟩⟩
   ·intro A W hW E0 A0;obtain ⟨a,n,c,ha,hw⟩:=(Q00 rfl).1 (A0 9 (by decide));have e50:=Q1o ha;have e42:=Q11 A0 1 (by decide) rfl rfl rfl;refine Q02 rfl ?_;refine Q0s (f:=149) (args:= #[.slice ax lx cx,.slice a n c]) (by simp[go_sem,e42,e50]) ((Q8j ax lx cx ls a n c _ W (HD.out W (Below.next0 HX.out hW)).wx hw (by omega)).mono ?_);rintro e w' ⟨⟨r,rfl,h1,h2,h3⟩,hb⟩;rw[Q10 (by decide)] at h1 h2;exact ⟨_,rfl,hb,(Q00 rfl).2 ⟨r,rfl,h1,h2,h3⟩⟩
   ·intro A W hW E0 A0;obtain ⟨r,hr,h1⟩:=(Q00 rfl).1 (A0 10 (by decide));have e51:=Q1o hr;refine Q02 rfl ?_;refine Q6p (u:=.int .i64 r) (by simp[go_sem,e51]) ((Q00 rfl).2 ⟨r,rfl,h1⟩)
  intro vs W2 i5 A3;obtain ⟨r,hr,h3,h4⟩:=(Q00 rfl).1 (A3 11 (by decide));simp only[Q0t,Act.put,Um,Ux,Ut,hr];have HR:=Xh3 i5 h3 h4;clear i5 A3 hr h3 h4
  go_wp2_with fail
  go_ret;refine ⟨⟨r,rfl,?_,(Xe3 HR)⟩,Below.next0 (Below.next0 (Below.next0 (HC.out W0 (Ud _ _)).1.bel HB.out) HX.out) (Xo0 HR)⟩;obtain ⟨h0,h3,h4,_⟩:=HR.out;rw[Q9a (Xe2 HU)];have hc:(val (2^64) ks:Int)*2^z=(V:Int):=by rw[<-(Xo1 HU)];simp
  rw[hc];generalize val (2^64) ls=u at*;omega
theorem Qca {w:World} {n:Bool} {e:Int} {a:OA} {l c:Nat} {L:LN} (h:WordsIn w a l c L) (hi:Q0a n e L):l<=64/\-65536<=e/\e<=65536:=by
 have hl:=h.len;rcases Q1f hi h.low with ⟨h1,_,h3⟩|⟨_,_,h3,h4,h5,h6⟩
 ·subst h1;simp at hl;omega
 ·have:=Qbr h4;rw[<-h3] at this;omega
theorem Qan (nx:Bool) (ex:Int) (ax:OA) (lx cx:Nat) (ls:LN) (ny:Bool) (ey:Int) (ay:OA) (ly cy:Nat) (ks:LN) (w:World) (h1:WordsIn w ax lx cx ls) (h2:WordsIn w ay ly cy ks) (i1:Q0a nx ex ls) (i2:Q0a ny ey ks):
 Calls Tryz.prog 55 #[.agg #[.bool nx,.int .i64 ex,.slice ax lx cx],.agg #[.bool ny,.int .i64 ey,.slice ay ly cy]] w fun r w'=>(∃s,r=.returned (.int .i64 s)/\Q3x s (Q2m nx ex ls) (Q2m ny ey ks))/\Bw w w':=by
 obtain ⟨b1,b2,b3⟩:=Qca h1 i1;obtain ⟨b4,b5,b6⟩:=Qca h2 i2;unfold Q2m;obtain ⟨W0,M1⟩:∃W0,(w.alloc (.cells #[.bool nx,.int .i64 ex,.slice ax lx cx] 26)).alloc (.cells #[.bool ny,.int .i64 ey,.slice ay ly cy] 26)=W0:=⟨_,rfl⟩;have hQ:Qq4 w W0 nx ex ax lx cx ls ny ey ay ly cy ks:=by rw[<-M1];exact Qq4.new h1 h2 _ _
 obtain ⟨sx,P9⟩:∃sx,Qa4 nx (val (2^64) ls)=sx:=⟨_,rfl⟩;obtain ⟨sy,Qf⟩:∃sy,Qa4 ny (val (2^64) ks)=sy:=⟨_,rfl⟩;have hgx:∀W,Bw W0 W->Calls Tryz.prog 95 #[.agg #[.bool nx,.int .i64 ex,.slice ax lx cx]] W fun e w'=>e=.returned (.int .i64 sx)/\Bw W w':=fun W hW=>by
  have h:=Q3y nx ex ax lx cx ls W (hQ.step hW).wx (by omega);rw[<-P9];exact h
 have hgy:∀W,Bw W0 W->Calls Tryz.prog 95 #[.agg #[.bool ny,.int .i64 ey,.slice ay ly cy]] W fun e w'=>e=.returned (.int .i64 sy)/\Bw W w':=fun W hW=>by
  have h:=Q3y ny ey ay ly cy ks W (hQ.step hW).wy (by omega);rw[<-Qf];exact h
 have HC:=Ua (fun W (hW:Bw W0 W)=>And.intro (hQ.step hW) (And.intro (hgx W hW) (hgy W hW)));have HS:=Xh2 P9 Qf;clear hQ hgx hgy h1 h2 P9 Qf i1 i2
 go_enter Tryz.func55,Tryz.ntmps55
 go_upto_region 1 with fail
 clear M1;refine Q06 (E:=Q7l) (fun _=>Ud _ _) (by kernel_rfl) (fun W=>Bw W0 W) (fun _ _ h h'=>Below.next0 h h') (Q3q [.agg #[.bool nx,.int .i64 ex,.slice ax lx cx],.int .i64 sx,.agg #[.bool ny,.int .i64 ey,.slice ay ly cy],.int .i64 sy,.int .i64 sx,.int .i64 sy] (fun _=>none)) (Q08 (fun _ _ h=>by cases h)) (Q15 (by kernel_rfl)) (by kernel_rfl) (Q04 W0) ?_ ?_
 ·skip
  repeat' (first|exact Q83|refine Q82 ?_ ?_)
  all_goals
   refine Q1p rfl fun A W hW E0 hd hd=>?_;simp[Q72,Region.binds] at hd;have e2:=Q07 E0 2 (by kernel_rfl) rfl;have e3:=Q07 E0 3 (by kernel_rfl) rfl;have hc:=(HC.out W hW).1
   first
   |(refine Q12 rfl rfl ?_;simp[go_sem,hd,e2,e3,hc.x.c0,hc.x.c1,hc.x.c2,hc.y.c0,hc.y.c1,hc.y.c2];done)
   |(refine Q2b rfl rfl ?_ (HC.out W hW).2.1;simp[go_sem,hd];done)
   |(refine Q2b rfl rfl ?_ (HC.out W hW).2.2;simp[go_sem,hd];done)
 intro vs W1 R1 A3;have e4:vs 4=.int .i64 sx:=(Q0j rfl).1 (A3 4 (by decide));have e5:vs 5=.int .i64 sy:=(Q0j rfl).1 (A3 5 (by decide));simp only[Q0t,Act.put,Um,Ux,Ut,e4,e5];have HB:=Ua R1;clear R1 A3 e4 e5;have E3:=fun W=>Tryz.Qzx sx sy W
 by_cases C1:sx=sy
 case neg=>
  have hne':(sx==sy)=false:=by rw[Uk];exact C1
  have HN:=Ua C1;clear C1
  go_wp2_with (go_at_call 97;refine (E3 _).mono ?_;rintro e w2 ⟨rfl,Z4⟩;obtain rfl:=Z4.symm)
  go_ret;refine ⟨⟨_,rfl,?_⟩,Below.next0 (HC.out W0 (Ud _ _)).1.bel HB.out⟩;obtain ⟨P9,Qf⟩:=HS.out;refine Qdw (.inl (by rw[P9,Qf];exact HN.out)) ?_;rw[P9,Qf];exact Q55 sx sy
 case pos=>
 subst C1
 by_cases h0:sx=0
 ·subst h0
  go_wp2_with (go_at_call 97;refine (E3 _).mono ?_;rintro e w2 ⟨rfl,Z4⟩;obtain rfl:=Z4.symm)
  go_ret;refine ⟨⟨_,rfl,?_⟩,Below.next0 (HC.out W0 (Ud _ _)).1.bel HB.out⟩;obtain ⟨P9,Qf⟩:=HS.out;refine Qdw (.inr P9) ?_;rw[P9,Qf];exact Q55 0 0
 ·have h0':(sx==0)=false:=by rw[Uk];exact h0
  have C7:nx=ny/\val (2^64) ls≠0/\val (2^64) ks≠0/\sx=Qa4 nx 1/\(sx=1∨sx= -1):=by
   obtain ⟨P9,Qf⟩:=HS.out;unfold Qa4 at*
   by_cases z1:val (2^64) ls=0
   ·rw[Uu z1] at P9;exact absurd P9.symm h0
   ·by_cases z2:val (2^64) ks=0
    ·rw[Uu z2] at Qf;exact absurd Qf.symm h0
    ·rw[Uq z1] at P9;rw[Uq z2] at Qf;refine ⟨?_,z1,z2,?_⟩
     ·cases nx <;> cases ny <;> simp at P9 Qf <;> first|rfl|omega
     ·rw[Uq (by decide),P9];refine ⟨rfl,?_⟩;rw[<-P9];split
      ·exact .inr rfl
      ·exact .inl rfl
  have J1:=(HC.out W1 HB.out).1;have x0:=J1.x.c0;have x1:=J1.x.c1;have x2:=J1.x.c2;have y0:=J1.y.c0;have y1:=J1.y.c1;have y2:=J1.y.c2;have F2:=Qfd nx ex ax lx cx ls ny ey ay ly cy ks W1 J1.wx J1.wy (by omega) (by omega) (by omega) (by omega) (by omega) (by omega) C7.2.1 C7.2.2.1;have HZ:=Xh2 F2 C7;clear J1 F2 C7 h0
  go_wp2_with (go_at_call 98;refine (Xo0 HZ).mono ?_;rintro e w2 ⟨⟨s,rfl,hs,B5,V8⟩,D0⟩;have KG:wrap64 (sx*s)=sx*s:=(by unfold wrap64;rcases (Xe5 HZ) with h|h <;> rw[h] <;> omega);have hws2:IntKind.i64.wrap (sx*s)=sx*s:=(by rw[UY];rcases (Xe5 HZ) with h|h <;> rw[h] <;> omega);have H2:=Xh2 hs D0;clear hs D0)
  go_ret;refine ⟨⟨_,rfl,?_⟩,Below.next0 (Below.next0 (HC.out W0 (Ud _ _)).1.bel HB.out) (Xe1 H2)⟩;obtain ⟨_,rfl,_,_,QP,_⟩:=HZ.out;exact Qpj (Xo0 H2) (by rw[QP])
def RdZ (w:World) (B:Nat) (a:OA) (E:List Int):Prop:=
 E=[]∨∃b o,a=some ⟨b,o,none⟩/\b<B/\∀(j:Nat) x,E[j]?=some x->w.cell? ⟨b,o+j,none⟩=some (.int .i64 x)
section
variable {w w':World} {B B':Nat} {a:OA} {E:List Int}
theorem RdZ.keep (h:RdZ w B a E) (hk:∀p:Addr,p.block<B->w'.cell? p=w.cell? p):RdZ w' B a E:=by
 rcases h with rfl|⟨b,o,rfl,hb,hc⟩
 ·exact .inl rfl
 ·exact .inr ⟨b,o,rfl,hb,fun j x hx=>(hk _ hb).trans (hc j x hx)⟩
theorem RdZ.more (h:RdZ w B a E) (hB:B<=B'):RdZ w B' a E:=by
 rcases h with rfl|⟨b,o,rfl,hb,hc⟩
 ·exact .inl rfl
 ·exact .inr ⟨b,o,rfl,by omega,hc⟩
theorem RdZ.below (h:RdZ w B a E) (hb:Below B w w'):RdZ w' B a E:=h.keep fun _ hp=>hb.cell hp
theorem RdZ.at_ {k:Nat} {x:Int} (h:RdZ w B a E) (hx:E[k]?=some x):∃b o,a=some ⟨b,o,none⟩/\b<B/\w.cell? ⟨b,o+k,none⟩=some (.int .i64 x):=by
 rcases h with rfl|⟨b,o,rfl,hb,hc⟩
 ·simp at hx
 ·exact ⟨b,o,rfl,hb,hc k x hx⟩
end
inductive ZK where
 |k
def Zz [LT ZK]:Prop:=ZK.k<ZK.k
theorem zz_t [LT ZK] [h:Nonempty (PLift Zz)]:Zz:=h.elim PLift.down
def Qyt [LT ZK] (a:OA) (E:List Int):Prop:=(∀x∈E,-9223372036854775808<=x/\x<=9223372036854775807)/\∀b o,a=some ⟨b,o,none⟩->Zz->o=0
theorem Qyt.new [LT ZK] {b:Nat} {E:List Int} (h:∀x∈E,-9223372036854775808<=x/\x<=9223372036854775807):Qyt (some ⟨b,0,none⟩) E:=⟨h,fun _ _ e _=>by cases e;rfl⟩
structure Q0p [LT ZK] (w:World) (a:OA) (n c:Nat) (E:List Int):Prop where
 len:E.length=n
 cap:n<=c
 most:c<=9223372036854775807
 rng:Qyt a E
 rd:RdZ w w.heap.size a E
theorem Q0p.step [LT ZK] {w w':World} {a:OA} {n c:Nat} {E:List Int} (h:Q0p w a n c E) (hb:Bw w w'):Q0p w' a n c E:=⟨h.len,h.cap,h.most,h.rng,(h.rd.below hb).more hb.size⟩
structure Q50 (w:World) (b:Nat) (v0 v1 v2 v3:Value):Prop where
 c0:w.cell? ⟨b,0,none⟩=some v0
 c1:w.cell? ⟨b,1,none⟩=some v1
 c2:w.cell? ⟨b,2,none⟩=some v2
 c3:w.cell? ⟨b,3,none⟩=some v3
 f0:w.frozen? ⟨b,0,none⟩=false
 f1:w.frozen? ⟨b,1,none⟩=false
 f2:w.frozen? ⟨b,2,none⟩=false
 f3:w.frozen? ⟨b,3,none⟩=false
theorem Q50.cc {w:World} {b:Nat} {v0 v1 v2 v3:Value} (h:Q50 w b v0 v1 v2 v3):w.cell? ⟨b,0,none⟩=some v0/\w.cell? ⟨b,1,none⟩=some v1/\w.cell? ⟨b,2,none⟩=some v2:=⟨h.c0,h.c1,h.c2⟩
theorem Q50.cf {w:World} {b:Nat} {v0 v1 v2 v3:Value} (h:Q50 w b v0 v1 v2 v3):w.cell? ⟨b,0,none⟩=some v0/\w.cell? ⟨b,1,none⟩=some v1/\w.cell? ⟨b,2,none⟩=some v2/\w.frozen? ⟨b,0,none⟩=false/\w.frozen? ⟨b,1,none⟩=false/\w.frozen? ⟨b,2,none⟩=false:=⟨h.c0,h.c1,h.c2,h.f0,h.f1,h.f2⟩
theorem Q50.new (w:World) (v0 v1 v2 v3:Value) (T:TypeId):Q50 (w.alloc (.cells #[v0,v1,v2,v3] T)) w.heap.size v0 v1 v2 v3:=
 ⟨by rw[UL _ _ _ _ _ _ (Up _ _)];rfl,by rw[UL _ _ _ _ _ _ (Up _ _)];rfl,by rw[UL _ _ _ _ _ _ (Up _ _)];rfl,by rw[UL _ _ _ _ _ _ (Up _ _)];rfl,
   Tx _ _ _ _ _ (Up _ _),Tx _ _ _ _ _ (Up _ _),Tx _ _ _ _ _ (Up _ _),Tx _ _ _ _ _ (Up _ _)⟩
theorem Q50.step {w w':World} {b B:Nat} {v0 v1 v2 v3:Value} (h:Q50 w b v0 v1 v2 v3) (hb:Below B w w') (hB:b<B):Q50 w' b v0 v1 v2 v3:=
 ⟨(hb.cell (p:=⟨b,0,none⟩) hB).trans h.c0,(hb.cell (p:=⟨b,1,none⟩) hB).trans h.c1,(hb.cell (p:=⟨b,2,none⟩) hB).trans h.c2,(hb.cell (p:=⟨b,3,none⟩) hB).trans h.c3,(hb.frozen (p:=⟨b,0,none⟩) hB).trans h.f0,(hb.frozen (p:=⟨b,1,none⟩) hB).trans h.f1,(hb.frozen (p:=⟨b,2,none⟩) hB).trans h.f2,(hb.frozen (p:=⟨b,3,none⟩) hB).trans h.f3⟩
theorem Qfe {E:List Int} {i:Nat} {x:Int} (h:E[i]?=some x):(E.take (i+1)).sum=(E.take i).sum+x:=by
 rw[Tu,h,List.sum_append];simp
theorem Qcb {E:List Int} {i:Nat} {x:Int} (h:x∈E.take i):∃j,j<i/\E[j]?=some x:=by
 obtain ⟨j,hj⟩:=US.1 h;rw[Ty] at hj
 split at hj
 ·exact ⟨j,by assumption,hj⟩
 ·cases hj
theorem Qlf [LT ZK] (n:Bool) (e:Int) (a:OA) (l c:Nat) (L:LN) (b:OA) (m d:Nat) (E:List Int) (k:Nat) (w:World) (h:WordsIn w a l c L) (hE:Q0p w b m d E) (hk:k<=9223372036854775807) (he: -9223372036854775808<=e) (Q5:e<=9223372036854775807):
 Calls Tryz.prog 92 #[.agg #[.bool n,.int .i64 e,.slice a l c,.slice b m d],.int .i64 (k:Int)] w fun r w'=>r=.returned (.bool (decide (Q1l k E/\Q0a n e L)))/\Bw w w':=by
 obtain ⟨rs,KR⟩:∃rs,decide (Q1l k E/\Q0a n e L)=rs:=⟨_,rfl⟩;rw[KR];have Vp:=Ua KR;clear KR;have C0:Bw w (w.alloc (.cells #[.bool n,.int .i64 e,.slice a l c,.slice b m d] 98)):=Ba;have hX:=Q50.new w (.bool n) (.int .i64 e) (.slice a l c) (.slice b m d) 98;have F0:=Q0o w (.cells #[.bool n,.int .i64 e,.slice a l c,.slice b m d] 98);generalize hW:w.alloc (.cells #[.bool n,.int .i64 e,.slice a l c,.slice b m d] 98)=W at C0 hX F0;obtain ⟨Y5,K5,Z3⟩:=hX.cc;have Vf:=hX.c3;have P2:=hE.len;subst P2;have j9:=Q1j n e a l c L W (h.step C0) he Q5 (by have:=h.cap;have:=h.most;omega);have R7:=hE.rd.below C0;have E3:=Uj hE.cap hE.most;have HC:=Xh4 j9 R7 C0 hE.rng.1;clear C0 hX F0 j9 R7 h hE
 go_enter Tryz.func92,Tryz.ntmps92
 go_wp2_with fail
 go_loopw [5,11] (fun lv iv wr=>∃(i:Nat) (s:Int),lv=.int .i64 (8-s)/\iv=.int .i64 (i:Int)/\i<=E.length/\(E.take i).sum=s/\0<=s/\s<=8/\(∀x∈E.take i,0<=x)/\W=wr) (fun _ iv _=>E.length-(intOf iv).toNat)
 case atStart=>exact ⟨0,0,rfl,rfl,Uv _,by simp,by decide,by decide,by simp,rfl⟩
 case round=>
  obtain ⟨i,s,rfl,rfl,hi,hs,KN,VA,p6,rfl⟩:=hrel
  by_cases F0:i<E.length
  ·have G0:(i:Int)<(E.length:Int):=(by omega);obtain ⟨x,hx⟩:∃x,E[i]?=some x:=⟨_,Ub F0⟩;obtain ⟨ba,oa,j5,Q1,Y4⟩:=(Xo1 HC).at_ hx;subst j5;have hxr:=(Xe3 HC) x (Ug hx);have Qi:=Qfe hx;have HS:=Xh4 hs Qi p6 hx;clear hs Qi p6 hx
   by_cases hx0':x<0
   ·go_wp2_with fail
    go_ret;have C4:¬(Q1l k E/\Q0a n e L):=fun h=>by
     have:=h.1.2.1 x (Ug (Xe3 HS));omega
    have hf:rs=false:=(by rw[<-Vp.out];exact UU C4);exact ⟨by rw[hf];rfl,(Xo2 HC)⟩
   ·by_cases hx8:8-s<x
    ·go_wp2_with fail
     go_ret;have C4:¬(Q1l k E/\Q0a n e L):=fun h=>by
      have h1:=(Qss h.1.2.1 (i+1)).2;have h2:=h.1.2.2;have h3:=(Xo0 HS);have h4:=(Xo1 HS);omega
     have hf:rs=false:=(by rw[<-Vp.out];exact UU C4);exact ⟨by rw[hf];rfl,(Xo2 HC)⟩
    ·go_wp2_with fail
     refine ⟨⟨i+1,s+x,by simp only[Xa5,true_and];omega,by simp,by omega,by rw[(Xo1 HS),(Xo0 HS)],by omega,by omega,fun y hy=>?_,trivial⟩,by simp only[intOf];omega⟩;obtain ⟨j,hj,hjy⟩:=Qcb hy
     by_cases hji:j=i
     ·subst hji;have h5:=(Xe3 HS);rw[hjy] at h5;injection h5 with h5;omega
     ·exact (Xo2 HS) y (US.2 ⟨j,by rw[Ty,Uu (by omega)];exact hjy⟩)
  ·obtain rfl:i=E.length:=(by omega);have G0:¬((E.length:Int)<(E.length:Int)):=(by omega);rw[Tw] at hs p6
   by_cases K6:E.length=k
   ·subst K6;have Wf:Q1l E.length E:=⟨rfl,p6,by omega⟩;have hee:((E.length:Int)==(E.length:Int))=true:=(by simp);have HS:=Ua Wf;clear Wf hs p6
    go_wp2_with (refine (Xo0 HC).mono ?_;rintro r w1 ⟨rfl,C0⟩;have HA:=Ua C0;clear C0)
    go_ret;refine ⟨?_,Below.next0 (Xo2 HC) HA.out⟩;have S8:(Q1l E.length E/\Q0a n e L)↔Q0a n e L:=⟨fun h=>h.2,fun h=>⟨HS.out,h⟩⟩;have hf:rs=decide (Q0a n e L):=(by rw[<-Vp.out];exact decide_eq_decide.2 S8);rw[hf];rfl
   ·have hke:((E.length:Int)==(k:Int))=false:=(by rw[Uk];omega);have HS:=Ua K6;clear hs p6 K6
    go_wp2_with fail
    go_ret;have C4:¬(Q1l k E/\Q0a n e L):=fun h=>HS.out h.1.1;have hf:rs=false:=(by rw[<-Vp.out];exact UU C4);exact ⟨by rw[hf];rfl,(Xo2 HC)⟩
theorem Qlg {E F:List Int} {i:Nat} {x y:Int} (hx:E[i]?=some x) (hy:F[i]?=some y):Q2w (E.drop i) (F.drop i)=if x<y then -1 else if y<x then 1 else Q2w (E.drop (i+1)) (F.drop (i+1)):=by
 rw[Q6h E i x hx,Q6h F i y hy];rfl
theorem Qcc [LT ZK] (a:OA) (n c:Nat) (E:List Int) (b:OA) (m d:Nat) (F:List Int) (w:World) (h1:Q0p w a n c E) (h2:Q0p w b m d F):
 Calls Tryz.prog 143 #[.slice a n c,.slice b m d] w fun r w'=>r=.returned (.int .i64 (Q2w E F))/\w'=w:=by
 have C6:=h1.len;have Z6:=h2.len;subst C6;subst Z6;have J1:=Uj h1.cap h1.most;have I1:=Uj h2.cap h2.most;have E3:=fun x y W=>Tryz.Qzx x y W;have HC:=Xh5 h1.rd h2.rd h1.rng.1 h2.rng.1 E3;clear h1 h2 E3;obtain ⟨V,hV⟩:∃V,Q2w E F=V:=⟨_,rfl⟩;rw[hV];have HV:=Ua hV;clear hV
 go_enter Tryz.func143,Tryz.ntmps143
 go_wp2_with fail
 go_loopw [11] (fun iv wr=>∃i:Nat,iv=.int .i64 (i:Int)/\i<=E.length/\i<=F.length/\Q2w (E.drop i) (F.drop i)=V/\w=wr) (fun iv _=>E.length-(intOf iv).toNat)
 case atStart=>exact ⟨0,rfl,Uv _,Uv _,HV.out,rfl⟩
 case round=>
  obtain ⟨i,rfl,hi,hi2,A5,rfl⟩:=hrel
  by_cases F0:i<E.length
  ·have G0:(i:Int)<(E.length:Int):=(by omega);obtain ⟨x,hx⟩:∃x,E[i]?=some x:=⟨_,Ub F0⟩;obtain ⟨ba,oa,j5,Q1,Y4⟩:=(Xo0 HC).at_ hx;subst j5
   by_cases Zn:i<F.length
   ·have VZ:¬(F.length:Int)<=(i:Int):=(by omega);obtain ⟨y,hy⟩:∃y,F[i]?=some y:=⟨_,Ub Zn⟩;obtain ⟨bb,ob,X7,C3,QV⟩:=(Xo1 HC).at_ hy;subst X7;have Ve:=Qlg hx hy;rw[A5] at Ve;have hxr:=(Xo2 HC) x (Ug hx);have hyr:=(Xo3 HC) y (Ug hy);obtain ⟨v,hv⟩:∃v,Lib.compareInt x y=v:=⟨_,rfl⟩;have Y3:=(Xe4 HC) x y w;rw[hv] at Y3;have hvv:v=if x<y then -1 else if y<x then 1 else 0:=by rw[<-hv];rfl
    have HH:=Xh3 Y3 hvv Ve;clear Y3 hvv Ve hv hx hy A5
    by_cases M7:v=0
    ·subst M7;have Jt:¬x<y/\¬y<x:=by
      have h3:=(Xo1 HH)
      constructor
      ·intro h;rw[Uu h] at h3;omega
      ·intro h;rw[Uq (by omega),Uu h] at h3;omega
     have HX:=Ua Jt;clear Jt
     go_wp2_with (refine (Xo0 HH).mono ?_;rintro r w1 ⟨rfl,rfl⟩)
     refine ⟨⟨i+1,by simp,by omega,by omega,?_,trivial⟩,by simp only[intOf];omega⟩;have h4:=(Xe2 HH);rw[Uq (Int.not_lt.2 (Xo0 HX)),Uq (Int.not_lt.2 (Xe1 HX))] at h4;exact h4.symm
    ·have hvb:(v==0)=false:=(by rw[Uk];exact M7);have hVv:V=v:=by
      have h3:=(Xo1 HH);have h4:=(Xe2 HH)
      by_cases q1:x<y
      ·rw[Uu q1] at h3 h4;omega
      ·rw[Uq q1] at h3 h4
       by_cases q2:y<x
       ·rw[Uu q2] at h3 h4;omega
       ·rw[Uq q2] at h3;exact absurd h3 M7
     have HVV:=Ua hVv;clear hVv
     go_wp2_with (refine (Xo0 HH).mono ?_;rintro r w1 ⟨rfl,rfl⟩)
     go_ret;exact ⟨by rw[HVV.out];rfl,rfl⟩
   ·have VZ:(F.length:Int)<=(i:Int):=(by omega);have P5:V=1:=by
     rw[<-A5,Q6h E i x hx,Tm (l:=F) (show F.length<=i by omega)];rfl
    subst P5;clear A5 hx
    go_wp2_with fail
    go_ret;exact ⟨rfl,rfl⟩
  ·obtain rfl:i=E.length:=(by omega);have G0:¬((E.length:Int)<(E.length:Int)):=(by omega);rw[Tm (Ue _)] at A5
   by_cases Zn:E.length<F.length
   ·have VZ:(E.length:Int)<(F.length:Int):=(by omega);obtain ⟨y,hy⟩:∃y,F[E.length]?=some y:=⟨_,Ub Zn⟩;have P5:V= -1:=(by rw[<-A5,Q6h F _ y hy];rfl);subst P5;clear A5 hy
    go_wp2_with fail
    go_ret;exact ⟨rfl,rfl⟩
   ·have VZ:¬(E.length:Int)<(F.length:Int):=(by omega);have P5:V=0:=(by rw[<-A5,Tm (by omega)];rfl);subst P5;clear A5
    go_wp2_with fail
    go_ret;exact ⟨rfl,rfl⟩
theorem Qq5 [LT ZK] (u0 u1 u2:Value) (a:OA) (n c:Nat) (E:List Int) (v0 v1 v2:Value) (b:OA) (m d:Nat) (F:List Int) (w:World) (h1:Q0p w a n c E) (h2:Q0p w b m d F):
 Calls Tryz.prog 93 #[.agg #[u0,u1,u2,.slice a n c],.agg #[v0,v1,v2,.slice b m d]] w fun r w'=>r=.returned (.int .i64 (Q2w F E))/\Bw w w':=by
 have C0:Bw w (w.alloc (.cells #[u0,u1,u2,.slice a n c] 98)):=Ba;have B5:(w.alloc (.cells #[u0,u1,u2,.slice a n c] 98)).heap.size=w.heap.size+1:=Ur _ _;have D0:Below (w.alloc (.cells #[u0,u1,u2,.slice a n c] 98)).heap.size (w.alloc (.cells #[u0,u1,u2,.slice a n c] 98)) ((w.alloc (.cells #[u0,u1,u2,.slice a n c] 98)).alloc (.cells #[v0,v1,v2,.slice b m d] 98)):=Ba;have hX:=(Q50.new w u0 u1 u2 (.slice a n c) 98).step D0 (Q0o _ _);have hY:=Q50.new (w.alloc (.cells #[u0,u1,u2,.slice a n c] 98)) v0 v1 v2 (.slice b m d) 98;rw[B5] at hY;have hB:=Below.next0 C0 D0;generalize hW:(w.alloc (.cells #[u0,u1,u2,.slice a n c] 98)).alloc (.cells #[v0,v1,v2,.slice b m d] 98)=W at hX hY hB;have Vf:=hX.c3;have hy3:=hY.c3;have E3:=Qcc b m d F a n c E W (h2.step hB) (h1.step hB);have HC:=Xh2 E3 hB;clear C0 B5 D0 hX hY hB E3 h1 h2
 go_enter Tryz.func93,Tryz.ntmps93
 go_wp2_with (refine (Xo0 HC).mono ?_;rintro r w1 ⟨rfl,rfl⟩)
 go_ret;exact ⟨rfl,(Xe1 HC)⟩
structure Q01 where
 neg:Bool
 exp:Int
 ws:LN
 es:List Int
def Q74 [LT ZK] (w:World) (b o:Nat) (m:Q01):Prop:=∃aw lw cw ae le ce,w.cell? ⟨b,o,none⟩=some (.bool m.neg)/\w.cell? ⟨b,o+1,none⟩=some (.int .i64 m.exp)/\w.cell? ⟨b,o+2,none⟩=some (.slice aw lw cw)/\w.cell? ⟨b,o+3,none⟩=some (.slice ae le ce)/\
 WordsIn w aw lw cw m.ws/\Q0p w ae le ce m.es/\-9223372036854775808<=m.exp/\m.exp<=9223372036854775807
theorem Q74.step [LT ZK] {w w':World} {b o:Nat} {m:Q01} (h:Q74 w b o m) (hb:Bw w w') (F0:b<w.heap.size):Q74 w' b o m:=by
 obtain ⟨aw,lw,cw,ae,le,ce,h0,h1,h2,h3,h4,h5,h6⟩:=h;exact ⟨aw,lw,cw,ae,le,ce,(hb.cell (p:=⟨b,o,none⟩) F0).trans h0,(hb.cell (p:=⟨b,o+1,none⟩) F0).trans h1,(hb.cell (p:=⟨b,o+2,none⟩) F0).trans h2,(hb.cell (p:=⟨b,o+3,none⟩) F0).trans h3,h4.step hb,h5.step hb,h6⟩
def Q0k [LT ZK] (w:World) (a:OA) (n c:Nat) (ms:List Q01):Prop:=
 ms.length=n/\n<=c/\c<=9223372036854775807/\(ms=[]∨∃b o,a=some ⟨b,o,none⟩/\b<w.heap.size/\∀j m,ms[j]?=some m->Q74 w b (o+j*4) m)
theorem Q0k.step [LT ZK] {w w':World} {a:OA} {n c:Nat} {ms:List Q01} (h:Q0k w a n c ms) (hb:Bw w w'):Q0k w' a n c ms:=by
 obtain ⟨h1,h2,h3,h4⟩:=h;refine ⟨h1,h2,h3,?_⟩;rcases h4 with h4|⟨b,o,h5,h6,h7⟩
 ·exact .inl h4
 ·exact .inr ⟨b,o,h5,Uc h6 hb.size,fun j m hm=>(h7 j m hm).step hb h6⟩
def Q01.term (m:Q01):Q0m:=(Q2m m.neg m.exp m.ws,m.es)
def OkM (k:Nat) (m:Q01):Prop:=(Q1l k m.es/\Q0a m.neg m.exp m.ws)/\m.ws≠[]
instance (k:Nat) (m:Q01):Decidable (OkM k m):=by unfold OkM;infer_instance
def Q38 (k:Nat) (ms:List Q01):Prop:=1<=k/\k<=4/\ms.length<=24/\(∀m∈ms,OkM k m)/\ms.Pairwise fun p q=>0<Q2w p.es q.es
def Q0b (Φ:Prop) (r:Ending):Prop:=∃b,r=.returned (.bool b)/\(b=true↔Φ)
theorem Q0b.yes {Φ:Prop} {r:Ending} (h:Φ) (hr:r=.returned (.bool true)):Q0b Φ r:=⟨true,hr,by simp[h]⟩
theorem Q0b.no {Φ:Prop} {r:Ending} (h:¬Φ) (hr:r=.returned (.bool false)):Q0b Φ r:=⟨false,hr,by simp[h]⟩
theorem Q7n:∀(ms:List Q01),(∀j p q,ms[j]?=some p->ms[j+1]?=some q->0<Q2w p.es q.es)->ms.Pairwise fun p q=>0<Q2w p.es q.es
 |[],_=>List.Pairwise.nil
 |[_],_=>List.pairwise_singleton _ _
 |p::q::r,h=>by
  have ih:=Q7n (q::r) (fun j x y hx hy=>h (j+1) x y hx hy);refine TG.2 ⟨fun x hx=>?_,ih⟩;have h0:=h 0 p q rfl rfl;rcases UD.1 hx with rfl|hx
  ·exact h0
  ·exact Q5y _ _ _ h0 ((TG.1 ih).1 x hx)
theorem Qff [LT ZK] (a:OA) (n c:Nat) (ms:List Q01) (k:Nat) (w:World) (h:Q0k w a n c ms) (hk:k<=9223372036854775807):
 Calls Tryz.prog 51 #[.slice a n c,.int .i64 (k:Int)] w fun r w'=>Q0b (Q38 k ms) r/\Bw w w':=by
 have P2:=h.1;subst P2;have E3:=Uj h.2.1 h.2.2.1;have HM:=Ua h;clear h
 go_enter Tryz.func51,Tryz.ntmps51
 go_wp2_with fail
 go_loopw [9] (fun iv wr=>∃i:Nat,iv=.int .i64 (i:Int)/\i<=ms.length/\(∀j m,j<i->ms[j]?=some m->OkM k m)/\(∀j p q,j+1<i->ms[j]?=some p->ms[j+1]?=some q->0<Q2w p.es q.es)/\Bw w wr) (fun iv _=>ms.length-(intOf iv).toNat)
 case atStart=>exact ⟨0,rfl,Uv _,fun j m h=>absurd h (Tf _),fun j p q h=>absurd h (Tf _),Ud _ _⟩
 case round=>
  obtain ⟨i,rfl,hi,X1,t9,hb⟩:=hrel
  by_cases F0:i<ms.length
  ·have G0:(i:Int)<(ms.length:Int):=(by omega);obtain ⟨m,hm⟩:∃m,ms[i]?=some m:=⟨_,Ub F0⟩;obtain ⟨b0,o0,rfl,Q0,J2⟩:∃b o,a=some ⟨b,o,none⟩/\b<wr.heap.size/\∀j m,ms[j]?=some m->Q74 wr b (o+j*4) m:=by
    rcases (HM.out.step hb).2.2.2 with h0|h0
    ·rw[h0] at F0;simp at F0
    ·exact h0
   obtain ⟨aw,lw,cw,ae,le,ce,k0,k1,k2,k3,hw,he,K5,Z3⟩:=J2 i m hm;have HA:=Xh7 X1 t9 hb hm J2 hw he;clear X1 t9 hb hm J2 hw he;have F2:=Ur wr (.cells #[.bool m.neg,.int .i64 m.exp,.slice aw lw cw,.slice ae le ce] 98);have M2:Bw wr (wr.alloc (.cells #[.bool m.neg,.int .i64 m.exp,.slice aw lw cw,.slice ae le ce] 98)):=Ba;have hX:=Q50.new wr (.bool m.neg) (.int .i64 m.exp) (.slice aw lw cw) (.slice ae le ce) 98;generalize M1:wr.alloc (.cells #[.bool m.neg,.int .i64 m.exp,.slice aw lw cw,.slice ae le ce] 98)=W0 at F2 M2 hX;have HX:=Ua (fun W (hW:Bw W0 W)=>hX.step hW (by omega));have Wj:=Ua (Below.next0 (Xo2 HA) M2);have hMO:=fun W (hW:Bw W0 W)=>Qlf m.neg m.exp aw lw cw m.ws ae le ce m.es k W (((Xo5 HA).step M2).step hW) (((Xe6 HA).step M2).step hW) hk K5 Z3;have I0:=Ua M2;clear hX M2 F2;have Kt:=(Xo5 HA).len
   go_wp2_with fail
   by_cases Z7:Q1l k m.es/\Q0a m.neg m.exp m.ws
   ·simp only[UW Z7] at hMO;have HMO:=Ua hMO
    by_cases hemp:m.ws=[]
    ·have Xs:((lw:Int)==0)=true:=(by rw[<-Kt,hemp];rfl);have C4:¬Q38 k ms:=fun h=>(h.2.2.2.1 m (Ug (Xo3 HA))).2 hemp;have HNO:=Ua C4;clear hMO Z7 C4 Kt;refine Q06 (E:=Q7l) (fun w=>Ud _ w) (by kernel_rfl) (fun W=>Bw W0 W) (fun _ _ h h'=>Below.next0 h h') (Q3q [.agg #[.bool m.neg,.int .i64 m.exp,.slice aw lw cw,.slice ae le ce],.int .i64 (k:Int),.bool true,.bool false,.bool false,.pointer (some ⟨wr.heap.size,0,none⟩),.pointer (some ⟨wr.heap.size,2,none⟩),.slice aw lw cw,.int .i64 (lw:Int),.bool true,.bool true,.bool true,undef,undef,undef,undef,undef,undef,undef,undef,undef,undef,undef,undef,.bool true] (fun _=>none)) (Q08 (fun i φ h=>by cases h)) (Q15 (by kernel_rfl)) (by kernel_rfl) (Q04 W0) ?_ ?_
     ·skip
      repeat' (first|exact Q83|refine Q82 ?_ ?_)
      all_goals first
       |exact Qfc rfl rfl rfl
       |(refine Q1p rfl fun A W hW E0 hd hd=>?_
         simp[Q72,Region.binds] at hd;have e6:=Q07 E0 6 (by kernel_rfl) rfl;have e1:=Q07 E0 1 (by kernel_rfl) rfl;obtain ⟨u0_0,u0_1,u0_2,u0_3,_,_,_,_⟩:=(HX.out W hW)
         first
         |(refine Q12 rfl rfl ?_;simp[go_sem,hd,e6,e1,u0_0,u0_1,u0_2,u0_3,Xs];done)
         |(refine Q2b rfl rfl ?_ ((HMO.out W hW));simp[go_sem,hd];done))
     intro vs W1 R1 A3;have v24:vs 24=.bool true:=(Q0j rfl).1 (A3 24 (by decide));simp only[Q0t,Act.put,Um,Ux,Ut];rw[v24];have WT:=Ua (Below.next0 Wj.out R1);clear R1 A3 v24
     go_wp2_with fail
     go_ret;exact ⟨Q0b.no HNO.out rfl,WT.out⟩
    ·have Xs:((lw:Int)==0)=false:=by
      rw[<-Kt,Uk];intro e;exact hemp (UC.1 (by omega))
     have hokm:OkM k m:=⟨Z7,hemp⟩;have hok':∀j x,j<i+1->ms[j]?=some x->OkM k x:=fun j x hj hx=>by
      by_cases hji:j=i
      ·subst hji;have:=(Xo3 HA);rw[hx] at this;injection this with this;rw[this];exact hokm
      ·exact (Xo0 HA) j x (by omega) hx
     have HOK:=Ua hok';clear hMO Z7 Kt hokm hok' hemp
     by_cases S2:i=0
     ·have hip:i=0:=S2;have C7:(∀j x,j<i+1->ms[j]?=some x->OkM k x)/\(∀j p q,j+1<i+1->ms[j]?=some p->ms[j+1]?=some q->0<Q2w p.es q.es):=⟨HOK.out,fun j p q hj=>by omega⟩;have QZ:=Ua C7;clear C7;refine Q06 (E:=Q7l) (fun w=>Ud _ w) (by kernel_rfl) (fun W=>Bw W0 W) (fun _ _ h h'=>Below.next0 h h') (Q3q [.agg #[.bool m.neg,.int .i64 m.exp,.slice aw lw cw,.slice ae le ce],.int .i64 (k:Int),.bool true,.bool false,.bool false,.pointer (some ⟨wr.heap.size,0,none⟩),.pointer (some ⟨wr.heap.size,2,none⟩),.slice aw lw cw,.int .i64 (lw:Int),.bool false,.bool false,.bool false,.int .i64 (i:Int),.bool false,.bool false,undef,undef,undef,undef,undef,undef,undef,undef,.bool false,.bool false] (fun _=>none)) (Q08 (fun i φ h=>by cases h)) (Q15 (by kernel_rfl)) (by kernel_rfl) (Q04 W0) ?_ ?_
      ·skip
       repeat' (first|exact Q83|refine Q82 ?_ ?_)
       all_goals first
        |exact Qfc rfl rfl rfl
        |(refine Q1p rfl fun A W hW E0 hd hd=>?_
          simp[Q72,Region.binds] at hd;have e6:=Q07 E0 6 (by kernel_rfl) rfl;have e1:=Q07 E0 1 (by kernel_rfl) rfl;have e5:=Q07 E0 5 (by kernel_rfl) rfl;obtain ⟨u0_0,u0_1,u0_2,u0_3,_,_,_,_⟩:=(HX.out W hW)
          first
          |(refine Q12 rfl rfl ?_;simp[go_sem,hd,e6,e1,e5,u0_0,u0_1,u0_2,u0_3,Xs,hip];done)
          |(refine Q2b rfl rfl ?_ ((HMO.out W hW));simp[go_sem,hd];done))
      intro vs W1 R1 A3;have v24:vs 24=.bool false:=(Q0j rfl).1 (A3 24 (by decide));simp only[Q0t,Act.put,Um,Ux,Ut];rw[v24];have WT:=Ua (Below.next0 Wj.out R1);clear R1 A3 v24
      go_wp2_with fail
      refine ⟨⟨i+1,by simp only[Xa5,true_and];omega,by omega,(Xo0 QZ),(Xe1 QZ),WT.out⟩,by simp only[intOf];omega⟩
     ·have hip:0<i:=(by omega);obtain ⟨q,hq⟩:∃q,q+1=i:=⟨i-1,by omega⟩;have hiq:(i:Int)-1=(q:Int):=(by omega);have Xw:IntKind.i64.wrap (q:Int)=(q:Int):=(by rw[UY];omega);have hqn:(q:Int)<(ms.length:Int):=(by omega);obtain ⟨p,hp⟩:∃p,ms[q]?=some p:=⟨_,Ub (by omega)⟩;obtain ⟨pw,pl,pc,pe,pm,pd,z0,z1,z2,z3,Z4,Q5,_,_⟩:=(Xo4 HA) q p hp;have HPC:=Ua (fun W (hW:Bw W0 W)=>And.intro (((Below.next0 I0.out hW).cell (p:=⟨b0,o0+q*4,none⟩) Q0).trans z0) (And.intro (((Below.next0 I0.out hW).cell (p:=⟨b0,o0+q*4+1,none⟩) Q0).trans z1) (And.intro (((Below.next0 I0.out hW).cell (p:=⟨b0,o0+q*4+2,none⟩) Q0).trans z2) (((Below.next0 I0.out hW).cell (p:=⟨b0,o0+q*4+3,none⟩) Q0).trans z3))));have HAH:=Ua (fun W (hW:Bw W0 W)=>Qq5 (.bool p.neg) (.int .i64 p.exp) (.slice pw pl pc) pe pm pd p.es (.bool m.neg) (.int .i64 m.exp) (.slice aw lw cw) ae le ce m.es W (Q5.step (Below.next0 I0.out hW)) ((Xe6 HA).step (Below.next0 I0.out hW)));have HPQ:=Xh2 hp hq;clear z0 z1 z2 z3 Z4 Q5 hp hq
      by_cases A5:0<=Q2w m.es p.es
      ·have JD:decide (0<=Q2w m.es p.es)=true:=UW A5;have C4:¬Q38 k ms:=fun h=>by
        have h5:=h.2.2.2.2;rw[List.pairwise_iff_getElem] at h5;have Ji:=(Uh.1 (Xo0 HPQ));have KC:=(Uh.1 (Xo3 HA));have h6:=h5 q i Ji.1 KC.1 (by have:=(Xe1 HPQ);omega);rw[Ji.2,KC.2] at h6;have h7:=Q3v m.es p.es;omega
       have HNO:=Ua C4;clear C4 A5;refine Q06 (E:=Q7l) (fun w=>Ud _ w) (by kernel_rfl) (fun W=>Bw W0 W) (fun _ _ h h'=>Below.next0 h h') (Q3q [.agg #[.bool m.neg,.int .i64 m.exp,.slice aw lw cw,.slice ae le ce],.int .i64 (k:Int),.bool true,.bool false,.bool false,.pointer (some ⟨wr.heap.size,0,none⟩),.pointer (some ⟨wr.heap.size,2,none⟩),.slice aw lw cw,.int .i64 (lw:Int),.bool false,.bool false,.bool false,.int .i64 (i:Int),.bool true,.bool true,.slice (some ⟨b0,o0,none⟩) ms.length c,.int .i64 (i:Int),.int .i64 (q:Int),.pointer (some ⟨b0,o0+q*4,none⟩),.agg #[.bool p.neg,.int .i64 p.exp,.slice pw pl pc,.slice pe pm pd],.agg #[.bool m.neg,.int .i64 m.exp,.slice aw lw cw,.slice ae le ce],.int .i64 (Q2w m.es p.es),.bool true,.bool true,.bool true] (fun _=>none)) (Q08 (fun i φ h=>by cases h)) (Q15 (by kernel_rfl)) (by kernel_rfl) (Q04 W0) ?_ ?_
       ·skip
        repeat' (first|exact Q83|refine Q82 ?_ ?_)
        all_goals
         refine Q1p rfl fun A W hW E0 hd hd=>?_;simp[Q72,Region.binds] at hd;have e6:=Q07 E0 6 (by kernel_rfl) rfl;have e1:=Q07 E0 1 (by kernel_rfl) rfl;have e5:=Q07 E0 5 (by kernel_rfl) rfl;have e0:=Q07 E0 0 (by kernel_rfl) rfl;obtain ⟨u0_0,u0_1,u0_2,u0_3,_,_,_,_⟩:=(HX.out W hW);obtain ⟨u1_0,u1_1,u1_2,u1_3⟩:=HPC.out W hW
         first
         |(refine Q12 rfl rfl ?_;simp[go_sem,hd,e6,e1,e5,e0,u0_0,u0_1,u0_2,u0_3,Xs,hip,hiq,Xw,hqn,u1_0,u1_1,u1_2,u1_3,JD];done)
         |(refine Q2b rfl rfl ?_ ((HMO.out W hW));simp[go_sem,hd];done)
         |(refine Q2b rfl rfl ?_ ((HAH.out W hW));simp[go_sem,hd];done)
       intro vs W1 R1 A3;have v24:vs 24=.bool true:=(Q0j rfl).1 (A3 24 (by decide));simp only[Q0t,Act.put,Um,Ux,Ut];rw[v24];have WT:=Ua (Below.next0 Wj.out R1);clear R1 A3 v24
       go_wp2_with fail
       go_ret;exact ⟨Q0b.no HNO.out rfl,WT.out⟩
      ·have JD:decide (0<=Q2w m.es p.es)=false:=UU A5;have C7:(∀j x,j<i+1->ms[j]?=some x->OkM k x)/\(∀j p q,j+1<i+1->ms[j]?=some p->ms[j+1]?=some q->0<Q2w p.es q.es):=⟨HOK.out,fun j p' q' hj ZN hq'=>by
        by_cases hji:j=q
        ·subst hji;rw[(Xe1 HPQ)] at hq';have h1:=(Xo0 HPQ);rw[ZN] at h1;have h2:=(Xo3 HA);rw[hq'] at h2;injection h1 with h1;injection h2 with h2;subst h1;subst h2;have h7:=Q3v q'.es p'.es;omega
        ·exact (Xo1 HA) j p' q' (by have:=(Xe1 HPQ);omega) ZN hq'⟩
       have QZ:=Ua C7;clear C7 A5;refine Q06 (E:=Q7l) (fun w=>Ud _ w) (by kernel_rfl) (fun W=>Bw W0 W) (fun _ _ h h'=>Below.next0 h h') (Q3q [.agg #[.bool m.neg,.int .i64 m.exp,.slice aw lw cw,.slice ae le ce],.int .i64 (k:Int),.bool true,.bool false,.bool false,.pointer (some ⟨wr.heap.size,0,none⟩),.pointer (some ⟨wr.heap.size,2,none⟩),.slice aw lw cw,.int .i64 (lw:Int),.bool false,.bool false,.bool false,.int .i64 (i:Int),.bool true,.bool true,.slice (some ⟨b0,o0,none⟩) ms.length c,.int .i64 (i:Int),.int .i64 (q:Int),.pointer (some ⟨b0,o0+q*4,none⟩),.agg #[.bool p.neg,.int .i64 p.exp,.slice pw pl pc,.slice pe pm pd],.agg #[.bool m.neg,.int .i64 m.exp,.slice aw lw cw,.slice ae le ce],.int .i64 (Q2w m.es p.es),.bool false,.bool false,.bool false] (fun _=>none)) (Q08 (fun i φ h=>by cases h)) (Q15 (by kernel_rfl)) (by kernel_rfl) (Q04 W0) ?_ ?_
       ·skip
        repeat' (first|exact Q83|refine Q82 ?_ ?_)
        all_goals
         refine Q1p rfl fun A W hW E0 hd hd=>?_;simp[Q72,Region.binds] at hd;have e6:=Q07 E0 6 (by kernel_rfl) rfl;have e1:=Q07 E0 1 (by kernel_rfl) rfl;have e5:=Q07 E0 5 (by kernel_rfl) rfl;have e0:=Q07 E0 0 (by kernel_rfl) rfl;obtain ⟨u0_0,u0_1,u0_2,u0_3,_,_,_,_⟩:=(HX.out W hW);obtain ⟨u1_0,u1_1,u1_2,u1_3⟩:=HPC.out W hW
         first
         |(refine Q12 rfl rfl ?_;simp[go_sem,hd,e6,e1,e5,e0,u0_0,u0_1,u0_2,u0_3,Xs,hip,hiq,Xw,hqn,u1_0,u1_1,u1_2,u1_3,JD];done)
         |(refine Q2b rfl rfl ?_ ((HMO.out W hW));simp[go_sem,hd];done)
         |(refine Q2b rfl rfl ?_ ((HAH.out W hW));simp[go_sem,hd];done)
       intro vs W1 R1 A3;have v24:vs 24=.bool false:=(Q0j rfl).1 (A3 24 (by decide));simp only[Q0t,Act.put,Um,Ux,Ut];rw[v24];have WT:=Ua (Below.next0 Wj.out R1);clear R1 A3 v24
       go_wp2_with fail
       refine ⟨⟨i+1,by simp only[Xa5,true_and];omega,by omega,(Xo0 QZ),(Xe1 QZ),WT.out⟩,by simp only[intOf];omega⟩
   ·simp only[UU Z7] at hMO;have HMO:=Ua hMO;have C4:¬Q38 k ms:=fun h=>Z7 (h.2.2.2.1 m (Ug (Xo3 HA))).1;have HNO:=Ua C4;clear hMO Z7 C4 Kt;refine Q06 (E:=Q7l) (fun w=>Ud _ w) (by kernel_rfl) (fun W=>Bw W0 W) (fun _ _ h h'=>Below.next0 h h') (Q3q [.agg #[.bool m.neg,.int .i64 m.exp,.slice aw lw cw,.slice ae le ce],.int .i64 (k:Int),.bool false,.bool true,.bool true,undef,undef,undef,undef,undef,.bool true,.bool true,undef,undef,undef,undef,undef,undef,undef,undef,undef,undef,undef,undef,.bool true] (fun _=>none)) (Q08 (fun i φ h=>by cases h)) (Q15 (by kernel_rfl)) (by kernel_rfl) (Q04 W0) ?_ ?_
    ·skip
     repeat' (first|exact Q83|refine Q82 ?_ ?_)
     all_goals first
      |exact Qfc rfl rfl rfl
      |(refine Q1p rfl fun A W hW E0 hd hd=>?_
        simp[Q72,Region.binds] at hd;have e6:=Q07 E0 6 (by kernel_rfl) rfl;have e1:=Q07 E0 1 (by kernel_rfl) rfl;obtain ⟨u0_0,u0_1,u0_2,u0_3,_,_,_,_⟩:=(HX.out W hW)
        first
        |(refine Q12 rfl rfl ?_;simp[go_sem,hd,e6,e1,u0_0,u0_1,u0_2,u0_3];done)
        |(refine Q2b rfl rfl ?_ ((HMO.out W hW));simp[go_sem,hd];done))
    intro vs W1 R1 A3;have v24:vs 24=.bool true:=(Q0j rfl).1 (A3 24 (by decide));simp only[Q0t,Act.put,Um,Ux,Ut];rw[v24];have WT:=Ua (Below.next0 Wj.out R1);clear R1 A3 v24
    go_wp2_with fail
    go_ret;exact ⟨Q0b.no HNO.out rfl,WT.out⟩
  ·obtain rfl:i=ms.length:=(by omega);have G0:¬((ms.length:Int)<(ms.length:Int)):=(by omega);have A1:(∀m∈ms,OkM k m)/\ms.Pairwise fun p q=>0<Q2w p.es q.es:=⟨fun m hm=>by
    obtain ⟨j,hj⟩:=US.1 hm;exact X1 j m (Uh.1 hj).1 hj,Q7n ms fun j p q hp hq=>t9 j p q (Uh.1 hq).1 hp hq⟩
   have HF:=Xh2 A1 hb;clear A1 hb X1 t9
   by_cases k1:1<=k
   ·have k1':(1:Int)<=(k:Int):=by omega
    by_cases k4:k<=4
    ·have k4':(k:Int)<=4:=by omega
     by_cases l24:ms.length<=24
     ·have l24':(ms.length:Int)<=24:=by omega
      go_wp2_with fail
      go_ret;exact ⟨Q0b.yes ⟨k1,k4,l24,(Xo0 HF).1,(Xo0 HF).2⟩ rfl,(Xe1 HF)⟩
     ·have l24':¬(ms.length:Int)<=24:=by omega
      go_wp2_with fail
      go_ret;exact ⟨Q0b.no (fun h=>l24 h.2.2.1) rfl,(Xe1 HF)⟩
    ·have k4':¬(k:Int)<=4:=by omega
     go_wp2_with fail
     go_ret;exact ⟨Q0b.no (fun h=>k4 h.2.1) rfl,(Xe1 HF)⟩
   ·have k1':¬(1:Int)<=(k:Int):=by omega
    go_wp2_with fail
    go_ret;exact ⟨Q0b.no (fun h=>k1 h.1) rfl,(Xe1 HF)⟩
end Go.Proofs.YtidojbkhlenahaaGreatDoor
