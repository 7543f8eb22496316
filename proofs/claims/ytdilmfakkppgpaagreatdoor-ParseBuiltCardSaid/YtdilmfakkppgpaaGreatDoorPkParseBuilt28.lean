/- Part 28 of the proof of LawParseBuilt: RefSub, BndM, FlatL, RefV0. Condition: as each theorem says; none at the end. -/
import Derived.Test.YtdilmfakkppgpaaGreatDoorPkParseBuilt27
set_option maxRecDepth 100000
set_option maxHeartbeats 16000000
namespace Go.Proofs.YtdilmfakkppgpaaGreatDoor
open Go.RowKit WordsM
theorem Qkq {u v l cr X:Nat} (huv:u<=v) (h3:l<X) (h:l+u=v+cr*X):cr=0:=by
 refine Nat.eq_zero_of_not_pos fun N5=>?_;have h4:X<=cr*X:=Nat.le_mul_of_pos_left _ N5;omega
theorem Qej (a:OA) (n c:Nat) (v:Nat) (b:OA) (m d:Nat) (u:Nat) (w:World) (h1:Q0n w a n c v) (h2:Q0n w b m d u) (hn:n<=100000) (huv:u<=v):
 Calls Tryz.prog 61 #[.slice a n c,.slice b m d] w fun e w'=>∃a' n',e=.returned (.slice a' n' n')/\Q0n w' a' n' n' (v-u)/\Bw w w':=by
 have Jp:val (2^32) (dig (2^32) v)=v:=Q0x (by decide) v;have Jr:val (2^32) (dig (2^32) u)=u:=Q0x (by decide) u;have Zu:=Q2c (B:=2^32) (by decide) v;have Zd:=Q2c (B:=2^32) (by decide) u;have QN:=h1.len;have Xu:=h2.len;have hmn:m<=n:=by
  have h3:=Q1v (B:=2^32) (by decide) huv;omega
 have A1:=h1.rd;have G1:=h2.rd;obtain ⟨A,hA⟩:∃A,dig (2^32) v=A:=⟨_,rfl⟩;obtain ⟨K,hK⟩:∃K,dig (2^32) u=K:=⟨_,rfl⟩;rw[hA] at Jp Zu QN A1;rw[hK] at Jr Zd Xu G1;obtain ⟨i0,O1,P1,K1,J1⟩:=Xby Q6q;have HI:=Xh4 O1 P1 K1 J1;have H:=Xh7 Jp Jr Zu Zd A1 G1 huv;have WJ:=fun (i:Nat) W (hb:Bw w W)=>Q7e b m d K i W Xu (G1.below hb) Zd;have HD:=Ua WJ;clear Jp Jr Zu Zd A1 G1 hA hK h1 h2 WJ O1 P1 K1 J1 huv
 go_enter Tryz.func61,Tryz.ntmps61
 go_wp2_with fail
 go_loopw [5,6,7] (fun ov cv iv wr=>∃(i cr:Nat) (L:LN) (ao:OA) (co:Nat),ov=.slice ao i co/\cv=.int .u64 (cr:Int)/\iv=.int .i64 (i:Int)/\cr<=1/\i<=n/\Row wr w.heap.size 152 1 ao i co (L.map (nv .u32))/\L.length=i/\Low (2^32) L/\val (2^32) L+val (2^32) (K.take i)=val (2^32) (A.take i)+cr*(2^32)^i/\Bw w wr) (fun _ _ iv _=>n-(intOf iv).toNat)
 case atStart=>exact ⟨0,0,[],none,0,rfl,rfl,rfl,by decide,Uu _,Row.nil_ _ _ _ _,rfl,fun x hx=>by simp at hx,by simp[val],Uf _ _⟩
 case round=>
  obtain ⟨i,cr,L,ao,co,rfl,rfl,rfl,Z8,hi,I0,K5,O0,J0,hb⟩:=hrel
  by_cases b7:i=n
  ·have e1:K.take i=K:=UA (by rw[Xu,b7];exact hmn);have e2:A.take i=A:=UA (by rw[QN,b7];exact Ug _);rw[e1,e2,(Xo0 H),(Xo1 H)] at J0;have hcr0:cr=0:=by
    have h3:=Q3k (B:=2^32) (by decide) L O0;rw[K5] at h3;exact Qkq (Xe6 H) h3 J0
   subst hcr0;rw[TU,Tu] at J0;have hT:=Q40 ao i co L wr K5 I0.cap.1 I0.cap.2 (Row.rdI I0) O0;rw[show val (2^32) L=v-u by omega] at hT;have HT:=Xh2 hT hb;have l1:¬(i:Int)<(n:Int):=(by omega);clear hT hb J0 O0 I0 b7 e1 e2
   go_wp2_with (refine (Xo0 HT).mono ?_;rintro e w1 ⟨n',rfl,XB,hD,rfl⟩;have KY:=Ua hD;clear hD)
   go_ret;exact ⟨ao,n',rfl,KY.out,(Xe1 HT)⟩
  ·have B0:i<n:=(by omega);have l1:(i:Int)<(n:Int):=(by omega);obtain ⟨x,hx⟩:∃x,A[i]?=some x:=⟨_,Ub (by omega)⟩;obtain ⟨g1,o1,N6,B7,E6⟩:=((Xo4 H).below hb).at_ hx;subst N6;have J3:x<4294967296:=(Xo2 H) x (Ud hx);have JM:K[i]?.getD 0<4294967296:=Qbd (by decide) (Xo3 H) i;have Z0:=fun z cr' hs=>Qkp (B:=2^32) (z:=z) (cr':=cr') (cr:=cr) K5 hx hs rfl J0;have hd:∀W:World,W.heap=wr.heap->Calls Tryz.prog 106 #[.slice b m d,.int .i64 (i:Int)] W fun e w'=>e=.returned (.int .u64 ((K[i]?.getD 0:Nat):Int))/\∃n,w'=W.drewN n:=fun W hW=>by
    have h1:=Q7e b m d K i W (B:=w.heap.size) Xu (RdI.keep ((Xo5 H).below hb) (fun p _=>by unfold World.cell?;rw[hW])) (Xo3 H);refine h1.mono ?_;rintro e w' ⟨rfl,rfl⟩;exact ⟨rfl,0,rfl⟩
   generalize K[i]?.getD 0=y at*;obtain ⟨S,hS⟩:∃S,y+cr=S:=⟨_,rfl⟩;have hSI:(y:Int)+(cr:Int)=(S:Int):=(by omega);have hSl:S<=4294967296:=(by omega);have V5:∀o nq,Bw w ((wr.drewN nq).alloc o):=fun o nq=>(Q1w hb nq).alloc hb.size o;have R4:∀o nq,w.heap.size<=((wr.drewN nq).alloc o).heap.size:=fun o nq=>(V5 o nq).size;have Ja:∀o nq,Row ((wr.drewN nq).alloc o) w.heap.size 152 1 ao i co (L.map (nv .u32)):=fun o nq=>(I0.drewN nq).alloc o;obtain ⟨cr',Z,hcr',hZ,hZl⟩:∃cr' Z:Nat,cr'<=1/\Z+S=x+cr'*4294967296/\Z<4294967296:=by
    by_cases B0:x<S
    ·exact ⟨1,x+4294967296-S,Ug _,by omega,by omega⟩
    ·exact ⟨0,x-S,by omega,by omega,by omega⟩
   have T6:=Z0 Z cr' (by rw[<-hZ,<-hS];omega);have HH:=Xh5 T6 Ja V5 R4 O0;clear Z0 Ja V5 R4 hb I0 J0 T6 O0 hS hx;have hwn:IntKind.u32.wrap (Z:Int)=(Z:Int):=by
    simp only[IntKind.wrap,IntKind.signed,IntKind.bits];simp;omega
   by_cases B0:x<S
   ·have hltI:(x:Int)<(S:Int):=(by omega);obtain rfl:cr'=1:=(by omega);have hZI:(x:Int)+4294967296-(S:Int)=(Z:Int):=by omega
    go_wp2_with fail
    go_quiet (first|(refine Calls.quiet_of (hd _ ?_);rfl))
    go_wp2_with (at_builtin;refine Q0p rfl (.tmp 31) (.tmp 36) 54 rfl w _ 152 i0 _ 1 4 Tryz.underlying54 (Xo0 HI) (Xo1 HI) (Xo2 HI) (Xe3 HI) rfl (by decide) w.heap.size ((Xo2 HH) _ _) ((Xo3 HH) _ _) ao i co _ rfl ((Xo1 HH) _ _) ⟨(wr.drewN nq).heap.size,0,none⟩ 1 1 [.int .u32 (Z:Int)] rfl rfl (Q39 (wr.drewN nq) #[.int .u32 (Z:Int)] _ _) (Q9z _ _) (i+1) rfl (by omega) (by omega) ?_;intro a3 c3 w3 B9 QL G0 J6;have HO:=Xh2 B9 G0;clear B9 QL G0 J6)
    refine ⟨⟨i+1,1,L++[Z],a3,c3,rfl,rfl,by simp,Ug _,by omega,?_,by simp[K5],Qez (Xe4 HH) hZl,(Xo0 HH),(Xe1 HO)⟩,by simp only[intOf];omega⟩;rw[UP];exact (Xo0 HO)
   ·have hltI:¬(x:Int)<(S:Int):=(by omega);obtain rfl:cr'=0:=(by omega);have hZI:(x:Int)-(S:Int)=(Z:Int):=by omega
    go_wp2_with fail
    go_quiet (first|(refine Calls.quiet_of (hd _ ?_);rfl))
    go_wp2_with (at_builtin;refine Q0p rfl (.tmp 31) (.tmp 36) 54 rfl w _ 152 i0 _ 1 4 Tryz.underlying54 (Xo0 HI) (Xo1 HI) (Xo2 HI) (Xe3 HI) rfl (by decide) w.heap.size ((Xo2 HH) _ _) ((Xo3 HH) _ _) ao i co _ rfl ((Xo1 HH) _ _) ⟨(wr.drewN nq).heap.size,0,none⟩ 1 1 [.int .u32 (Z:Int)] rfl rfl (Q39 (wr.drewN nq) #[.int .u32 (Z:Int)] _ _) (Q9z _ _) (i+1) rfl (by omega) (by omega) ?_;intro a3 c3 w3 B9 QL G0 J6;have HO:=Xh2 B9 G0;clear B9 QL G0 J6)
    refine ⟨⟨i+1,0,L++[Z],a3,c3,rfl,rfl,by simp,Uu _,by omega,?_,by simp[K5],Qez (Xe4 HH) hZl,(Xo0 HH),(Xe1 HO)⟩,by simp only[intOf];omega⟩;rw[UP];exact (Xo0 HO)
def bnd (T:Nat) (d:Dyadic):Prop:=∃m:Int,d=dy m (-(T:Int))/\m.natAbs<2^(2*T)
theorem Quk (T:Nat):bnd T 0:=⟨0,(Qjx _).symm,by simpa using Tr (n:=2*T) (by decide:0<2)⟩
theorem Q5x (m:Int) (k:Nat):(m*2^k).natAbs=m.natAbs*2^k:=by
 rw[Int.natAbs_mul];have:((2:Int)^k)=((2^k:Nat):Int):=by simp
 rw[this,Int.natAbs_natCast]
theorem bnd.more {T S:Nat} {d:Dyadic} (h:bnd T d) (hS:T<=S):bnd S d:=by
 obtain ⟨m,rfl,hm⟩:=h;obtain ⟨k,rfl⟩:∃k,S=T+k:=⟨S-T,by omega⟩;refine ⟨m*2^k,?_,?_⟩
 ·have:=Qgt m (-((T+k:Nat):Int)) k;rw[<-this]
  congr 1
  omega
 ·rw[Q5x,show 2*(T+k)=2*T+k+k by omega,Tz,Tz];have h1:1<=2^k:=Tr (by decide)
  calc m.natAbs*2^k<2^(2*T)*2^k:=Xaj hm (by omega)
   _<=2^(2*T)*2^k*2^k:=Nat.le_mul_of_pos_right _ (by omega)
theorem bnd.add {T:Nat} {a b:Dyadic} (ha:bnd T a) (hb:bnd T b):bnd (T+1) (a+b):=by
 obtain ⟨m,rfl,hm⟩:=ha;obtain ⟨k,rfl,hk⟩:=hb;refine ⟨(m+k)*2^1,?_,?_⟩
 ·rw[Qll,<-Qgt (m+k) (-((T+1:Nat):Int)) 1]
  congr 1
  omega
 ·rw[Q5x,show 2*(T+1)=2*T+2 by omega,Tz];have:=Int.natAbs_add_le m k;generalize 2^(2*T)=X at*;omega
theorem bnd.mul {T S:Nat} {a b:Dyadic} (ha:bnd T a) (hb:bnd S b):bnd (T+S) (a*b):=by
 obtain ⟨m,rfl,hm⟩:=ha;obtain ⟨k,rfl,hk⟩:=hb;refine ⟨m*k,?_,?_⟩
 ·rw[Qq4]
  congr 1
  omega
 ·rw[Int.natAbs_mul,show 2*(T+S)=2*T+2*S by omega,Tz];exact Nat.mul_lt_mul_of_lt_of_le hm (TI hk) (Tr (by decide))
theorem Qbn {d:Dyadic} {T:Nat} (h:Q75 d) (hT:69632<=T):bnd T d:=by
 rcases h with rfl|⟨m,e,rfl,_,hm,h1,h2⟩
 ·exact Quk T
 obtain ⟨k,hk⟩:∃k:Nat,e= -(T:Int)+k:=⟨(e+T).toNat,by omega⟩;have hkT:k<=65536+T:=by omega
 refine ⟨m*2^k,by rw[hk,Qgt],?_⟩;rw[Q5x];have h3:(2^64)^64=2^(64*64):=(Xar 2 64 64).symm;rw[h3] at hm;obtain ⟨s,hs⟩:∃s,64*64=s:=⟨_,rfl⟩;rw[hs] at hm
 calc m.natAbs*2^k<2^s*2^k:=Xaj hm (Tr (by decide))
  _=2^(s+k):=(Tz 2 s k).symm
  _<=2^(2*T):=UR (by decide) (by omega)
theorem Qs0 {a b e:Int} (h:dy a e=dy b e):a=b:=by
 have h1:=congrArg Dyadic.toRat h;rw[Q7h,Q7h] at h1;have h2:((2:Rat)^e)≠0:=by
  intro h0;have h4:dy 1 e≠0:=Qq6 (by decide);refine h4 ?_;rw[<-Dyadic.toRat_inj,Q7h,h0];simp
 generalize (2:Rat)^e=x at h1 h2;have h3:(a:Rat)=(b:Rat):=by grind
 exact Rat.intCast_inj.1 h3
theorem Qs1 {neg:Bool} {v T:Nat} {e:Int} (hv:v%2=1) (h:bnd T (dy (sgn neg v) e)): -(T:Int)<=e/\e<=T/\v<2^(2*T):=by
 obtain ⟨m,hd,hm⟩:=h;have Vm:=Q4m (neg:=neg) hv;have he: -(T:Int)<=e:=by
  refine Int.not_lt.1 fun B0=>?_;obtain ⟨k,hk⟩:∃k:Nat,-(T:Int)=e+((k+1:Nat):Int):=⟨(-(T:Int)-e).toNat-1,by omega⟩;rw[hk,Qgt] at hd;have h1:=Qs0 hd;rw[h1,Int.pow_succ,<-Int.mul_assoc] at Vm;omega
 obtain ⟨k,hk⟩:∃k:Nat,e= -(T:Int)+k:=⟨(e+T).toNat,by omega⟩;rw[hk,Qgt] at hd;have h1:=Qs0 hd;have h2:=congrArg Int.natAbs h1;rw[Q5x,Qc3] at h2;rw[<-h2] at hm;have Z3:1<=2^k:=Tr (by decide);have C7:1<=v:=by omega
 refine ⟨he,?_,TO (Nat.le_mul_of_pos_right v (by omega)) hm⟩;have h3:2^k<2^(2*T):=TO (Nat.le_mul_of_pos_left _ (by omega)) hm;have h4:=(Nat.pow_lt_pow_iff_right (a:=2) (by decide)).1 h3;omega
theorem Qaj {neg:Bool} {v T k:Nat} {e:Int} (hc:Q5b neg v e) (h:bnd T (dy (sgn neg v) e)) (hk:2*T<=32*k):(dig (2^32) v).length<=k/\-(T:Int)<=e/\e<=T:=by
 by_cases h0:v=0
 ·obtain ⟨_,rfl⟩:=hc.1 h0;subst h0;rw[Q11];exact ⟨Uu _,by omega,by omega⟩
 ·obtain ⟨h1,h2,h3⟩:=Qs1 (hc.2 h0) h;refine ⟨Q2h (by decide) (Ue h3 ?_),h1,h2⟩;rw[<-Xar];exact UR (by decide) hk
end Go.Proofs.YtdilmfakkppgpaaGreatDoor
namespace Go.Proofs.YtdilmfakkppgpaaGreatDoor
open Go Go.RowKit
section
variable {P:Program}
def Qmm (l:List Oper) (n:Nat):Bool:=(List.range n).all fun k=>(List.range (n+1)).any fun j=>decide (k<j) && (match l[j]? with|some o=>(Q27 o).contains k|none=>false)
theorem Qcy {l:List Oper} {n:Nat} (h:Qmm l n=true) {D:Nat->Bool} (O3:∀j oj,l[j]?=some oj->D j=true->∀i∈Q27 oj,D i=true):∀m k,n-k=m->k<=n->D k=false->D n=false:=by
 intro m
 induction m using Nat.strongRecOn with
 |ind m ih=>
  intro k hm hk hD
  by_cases Wg:k=n
  ·subst Wg;exact hD
  ·have h1:=Tb.1 h k (by rw[List.mem_range];omega);obtain ⟨j,hj,h2⟩:=Xah.1 h1;rw[List.mem_range] at hj;rw[Xa3,Xas] at h2;obtain ⟨h3,h4⟩:=h2;cases Xr:l[j]? with
   |none=>rw[Xr] at h4;cases h4
   |some oj=>
    rw[Xr] at h4;have h5:k∈Q27 oj:=(by simpa using h4);have hDj:D j=false:=by
     cases hb:D j with
     |false=>rfl
     |true=>have:=O3 j oj Xr hb k h5;rw[hD] at this;cases this
    exact ih (n-j) (by omega) j rfl (by omega) hDj
def Qul (P:Program) (ops:Array Oper) (C:World->Prop) (V:Nat->Value->World->Prop) (a0:Act) (Fin:World->Prop):List Oper->Prop
 |[o]=>∀a w,C w->Q79 ops a0 a->(∀i∈Q27 o,V i (Q0b ops a i) w)->Q2o P (fun _ w'=>Fin w') ((execOp a.eval o).run P w)
 |_=>False
theorem Q2q {Q:Exit->Act->World->Prop} {id:Nat} {l:List Oper} {a0:Act} {w:World} (hm:P.follows .mixedOrders=true) (n:Nat) (hn:l.length=n+1) (C:World->Prop) (hC:∀w w',C w->Bw w w'->C w') (V:Nat->Value->World->Prop) (hV:∀i v w w',V i v w->Bw w w'->V i v w') (Fin:World->Prop)
 (hB:Q4b l a0.tmps.size=true) (hA:Qmm l n=true) (hG:(l.all fun o=>o.guard.isNone)=true) (hD:(l.zipIdx.all fun p=>p.1.dst.isSome || decide (p.2=n))=true) (h0:C w.drew)
 (step:Q1r P Qap l.toArray C V a0 (l.take n) 0) (last:Qul P l.toArray C V a0 Fin (l.drop n)) (fin:∀vs w,Fin w->Q .normal (Q0s vs l 0 a0) w):(Code.region id l.toArray true).wp P Q a0 w:=by
 have Z7:∀(k:Nat) (o:Oper),l[k]?=some o->∀y,Region.wanted o y=true:=fun k o ho y=>by
  have h1:=Tb.1 hG o (Ud ho);unfold Region.wanted;cases hg:o.guard with
  |none=>rfl
  |some g=>rw[hg] at h1;cases h1
 have D7:∀(D:Nat->Bool) (vs:Nat->Value) (i:Nat) (o:Oper) (v:Value) (w:World),l[i]?=some o->o.dst=none->(if D n=true then Fin w else (C w/\∀j,D j=true->V j (Q3b vs i v j) w))->(if D n=true then Fin w else (C w/\∀j,D j=true->V j (vs j) w)):=by
  intro D vs i o v w hi hd h;have JR:i=n:=by
   have hm:(o,i)∈l.zipIdx:=(by rw[Tw];exact hi);have h1:=Tb.1 hD _ hm;simpa[hd] using h1
  subst JR
  split at h
  ·rename_i S8;rw[Us S8];exact h
  ·rename_i S8;rw[Uq S8];refine ⟨h.1,fun j hj=>?_⟩;have:=h.2 j hj;unfold Q3b at this;rwa[Uq (fun e=>by subst e;exact S8 hj)] at this
 have P0:∀(k:Nat) (o:Oper),l[k]?=some o->Q7m P l.toArray (fun D vs w=>if D n=true then Fin w else (C w/\∀j,D j=true->V j (vs j) w)) a0 k o:=by
  intro k o ho a w D hI F0 hk A8 O3;have Wg:k<=n:=by have:=(Um.1 ho).1;omega
  have S8:D n=false:=Qcy hA (D:=D) (fun j oj hj=>O3 j oj (by simpa using hj)) _ k rfl Wg hk;have hDn':¬D n=true:=by rw[S8];decide
  simp only[S8] at hI;obtain ⟨VH,hVw⟩:=hI;have XT:∀i∈Q27 o,V i (Q0b l.toArray a i) w:=fun i hi=>hVw i (A8 i hi);refine ⟨Z7 k o ho _,?_⟩
  by_cases QT:k=n
  ·subst QT;have U7:l.drop k=[o]:=by
    rw[UC (by omega),UZ (by omega)];rw[(Um.1 ho).2]
   rw[U7] at last;have h1:=last a w VH F0 XT;have hK:∀u w',Fin w'->(if Q3q D k k=true then Fin w' else (C w'/\∀j,Q3q D k j=true->V j (Q3b (Q0b l.toArray a) k u j) w')):=fun u w' h=>by rw[Q93,Us rfl];exact h
   revert h1
   generalize (execOp a.eval o).run P w=res;intro h1;cases res with
   |ok x w'=>
    cases x with
    |value u=>exact hK u w' h1
    |enter f args=>
     refine Xba h1 ?_;rintro e w'' ⟨v,rfl,hf⟩;exact ⟨v,rfl,hK v w'' hf⟩
    |skip=>exact hK undef w' h1
    |_=>exact h1.elim
   |halt x w'=>exact h1.elim
  ·have Y9:(l.take n)[k]?=some o:=(by rw[To,Us (by omega)];exact ho);have h1:=Q1r.at_ _ _ _ _ step Y9;rw[UB] at h1;have h1:=h1 a w VH F0 XT;rw[Us (Z7 k o ho _)] at h1;have hK:∀u w',Bw w w'->V k u w'->(if Q3q D k n=true then Fin w' else (C w'/\∀j,Q3q D k j=true->V j (Q3b (Q0b l.toArray a) k u j) w')):=fun u w' hb hu=>by
    have e:Q3q D k n=false:=(by unfold Q3q;rw[Uq (fun e=>QT e.symm)];exact S8);rw[e,Uq (by decide)];refine ⟨hC _ _ VH hb,fun j hj=>?_⟩;unfold Q3b;unfold Q3q at hj
    by_cases JI:j=k
    ·subst JI;rw[Us rfl];exact hu
    ·rw[Uq JI];rw[Uq JI] at hj;exact hV _ _ _ _ (hVw j hj) hb
   revert h1
   generalize (execOp a.eval o).run P w=res;intro h1;cases res with
   |ok x w'=>
    cases x with
    |value u=>exact hK u w' h1.1 h1.2
    |enter f args=>
     refine Xba h1 ?_;rintro e w'' ⟨v,rfl,hb,hv⟩;exact ⟨v,rfl,hK v w'' hb hv⟩
    |skip=>exact hK undef w' h1.1 h1.2
    |_=>exact h1.elim
   |halt x w'=>exact h1.elim
 have ZU:∀(r:List Oper) (k:Nat),(∀(i:Nat) o,r[i]?=some o->l[k+i]?=some o)->Q9e P l.toArray (fun D vs w=>if D n=true then Fin w else (C w/\∀j,D j=true->V j (vs j) w)) a0 r k:=by
  intro r
  induction r with
  |nil=>intro k _;trivial
  |cons o r ih=>
   intro k h;refine ⟨P0 k o (by simpa using h 0 o rfl),ih (k+1) fun i o' G9=>?_⟩;have:=h (i+1) o' (by simpa using G9);rwa[show k+(i+1)=k+1+i by omega] at this
 refine Q5f hm (fun D vs w=>if D n=true then Fin w else (C w/\∀j,D j=true->V j (vs j) w)) (fun i o hi hd D vs v w h=>D7 D vs i o v w hi hd h) hB (fun vs=>?_) (ZU l 0 fun i o h=>by rw[UB];exact h) (fun D vs w P0 h=>?_)
 ·exact ⟨h0,fun j hj=>by cases hj⟩
 ·have S8:=P0 n (by omega);simp only[S8,Xa5] at h;exact fin vs w h
end
end Go.Proofs.YtdilmfakkppgpaaGreatDoor
namespace Go.Proofs.YtdilmfakkppgpaaGreatDoor
open Go.RowKit WordsM
def Q8q (w:World) (u:Value) (D:Dyadic):Prop:=∃n a l c e v,u=.agg #[.bool n,.slice a l c,.int .i64 e]/\Q0n w a l c v/\Q5b n v e/\dy (sgn n v) e=D
theorem Q8q.step {w w':World} {u:Value} {D:Dyadic} (h:Q8q w u D) (hb:Bw w w'):Q8q w' u D:=by
 obtain ⟨n,a,l,c,e,v,rfl,h1,h2,h3⟩:=h;exact ⟨n,a,l,c,e,v,rfl,h1.step hb,h2,h3⟩
def Qs2 (w:World) (D:Dyadic) (r:Ending) (w':World):Prop:=∃u,r=.returned u/\Q8q w' u D/\Bw w w'
theorem Q0n.box3 {w:World} {a:OA} {n c v r:Nat} {v0 v1 v2:Value} (h:Q0n w a n c v) (hN:Q02 w r v0 v1 v2) (h0:∀x:Nat,v0≠nv .u32 x) (h1:∀x:Nat,v1≠nv .u32 x) (h2:∀x:Nat,v2≠nv .u32 x) (u0 u1 u2:Value):
 Q0n (((w.setCell ⟨r,0,none⟩ u0).setCell ⟨r,1,none⟩ u1).setCell ⟨r,2,none⟩ u2) a n c v:=
 ⟨h.len,h.cap,h.most,(h.rd.store3 hN h0 h1 h2 u0 u1 u2).more (Q18 _ _ _ _ _)⟩
theorem Q0n.box {w:World} {a:OA} {n c v r:Nat} {b0:Bool} {a0:OA} {n0 c0:Nat} {e0:Int} (h:Q0n w a n c v) (hN:Q02 w r (.bool b0) (.slice a0 n0 c0) (.int .i64 e0)) (u0 u1 u2:Value):
 Q0n (((w.setCell ⟨r,0,none⟩ u0).setCell ⟨r,1,none⟩ u1).setCell ⟨r,2,none⟩ u2) a n c v:=
 h.box3 hN (fun _=>by simp[nv]) (fun _=>by simp[nv]) (fun _=>by simp[nv]) u0 u1 u2
theorem Q3j {P:Program} {Fin:World->Prop} {w':World} {res:Result Next} (hr:res=.ok .skip w') (h:Fin w'):Q2o P (fun _ w=>Fin w) res:=by rw[hr];exact h
def Q1n:List (Nat × (Value->World->Prop))->Nat->Option (Value->World->Prop)
 |[],_=>none
 |(i,φ)::r,x=>if x=i then some φ else Q1n r x
def Q0t (φ:Value->World->Prop):Prop:=∀v w w',φ v w->Bw w w'->φ v w'
theorem Q0m:∀{l:List (Nat × (Value->World->Prop))},(∀p∈l,Q0t p.2)->∀i φ,Q1n l i=some φ->∀v w w',φ v w->Bw w w'->φ v w'
 |[],_,i,φ,h=>by cases h
 |(j,ψ)::r,hs,i,φ,h=>by
  unfold Q1n at h
  split at h
  ·injection h with h;subst h;exact hs (j,ψ) (by simp)
  ·exact Q0m (fun p hp=>hs p (by simp[hp])) i φ h
def SlD (k v:Nat) (u:Value) (w:World):Prop:=∃a n c,u=.slice a n c/\n<=k/\Q0n w a n c v
theorem SlD.stable (k v:Nat):Q0t (SlD k v):=fun u w w' h hb=>by
 obtain ⟨a,n,c,rfl,h1,h2⟩:=h;exact ⟨a,n,c,rfl,h1,h2.step hb⟩
theorem Q2r (D:Dyadic):Q0t (fun u w=>Q8q w u D):=fun _ _ _ h hb=>h.step hb
theorem Qum {i:Nat} {φ:Value->World->Prop} (h:Q0t φ):∀p∈[(i,φ)],Q0t p.2:=fun p hp=>by rw[Uy] at hp;subst hp;exact h
theorem Qod {i j:Nat} {φ ψ:Value->World->Prop} (h:Q0t φ) (h':Q0t ψ):∀p∈[(i,φ),(j,ψ)],Q0t p.2:=fun p hp=>by
 rcases UF.1 hp with rfl|hp
 ·exact h
 ·exact Qum h' p hp
theorem Qy6 {i j k:Nat} {φ ψ χ:Value->World->Prop} (h:Q0t φ) (h':Q0t ψ) (YZ:Q0t χ):∀p∈[(i,φ),(j,ψ),(k,χ)],Q0t p.2:=fun p hp=>by
 rcases UF.1 hp with rfl|hp
 ·exact h
 ·exact Qod h' YZ p hp
theorem Qkr {i j k l:Nat} {φ ψ χ ω:Value->World->Prop} (h:Q0t φ) (h':Q0t ψ) (YZ:Q0t χ) (h3:Q0t ω):∀p∈[(i,φ),(j,ψ),(k,χ),(l,ω)],Q0t p.2:=fun p hp=>by
 rcases UF.1 hp with rfl|hp
 ·exact h
 ·exact Qy6 h' YZ h3 p hp
def Qx7 (w:World) (r:Nat) (D:Dyadic) (W:World):Prop:=∃n a l c e v,Q02 W r (.bool n) (.slice a l c) (.int .i64 e)/\Q0n W a l c v/\Q5b n v e/\dy (sgn n v) e=D/\Bw w W
theorem Q6m {w W:World} {r:Nat} {D:Dyadic} {b0:Bool} {a0:OA} {n0 c0:Nat} {e0:Int} (hr:w.heap.size<=r) (hb:Bw w W) (hN:Q02 W r (.bool b0) (.slice a0 n0 c0) (.int .i64 e0)) {n:Bool} {a:OA} {l c v:Nat} {e:Int} (hd:Q0n W a l c v) (hc:Q5b n v e) (hD:dy (sgn n v) e=D):
 Qx7 w r D (((W.setCell ⟨r,0,none⟩ (.bool n)).setCell ⟨r,1,none⟩ (.slice a l c)).setCell ⟨r,2,none⟩ (.int .i64 e)):=
 ⟨n,a,l,c,e,v,hN.store _ _ _,hd.box hN _ _ _,hc,hD,Q02.below hb hr _ _ _⟩
theorem Q0n.none_of {w:World} {a:OA} {n c v:Nat} (h:Q0n w a n c v) (h0:v=0):n=0:=by rw[<-h.len,h0,Q11];rfl
theorem Q0n.zero_of {w:World} {a:OA} {n c v:Nat} (h:Q0n w a n c v) (h0:n=0):v=0:=(Q56 (B:=2^32) (by decide)).1 (UH.1 (by rw[h.len,h0]))
theorem Qun {w:World} {a:OA} {n c v:Nat} (h:Q0n w a n c v):n<=9223372036854775807:=Ur h.cap h.most
theorem Qks {neg:Bool} {e:Int} {L:LN} (h:Q0i neg e L) (hl:Low (2^64) L):Q5b neg (val (2^64) L) e:=by
 rcases Q21 h hl with ⟨rfl,hn,he⟩|⟨_,ho,_⟩
 ·exact ⟨fun _=>⟨hn,he⟩,fun h=>absurd rfl h⟩
 ·exact ⟨fun e=>(by rw[e] at ho;cases ho),fun _=>ho⟩
theorem Qkt {u v k:Nat} (h1:(dig (2^32) v).length<=k) (h2:(dig (2^32) u).length+1<=k+1):(dig (2^32) (v+u)).length<=k+1:=by
 have g1:=Q3k (B:=2^32) (by decide) (dig (2^32) v) (Q2c (by decide) v);have g2:=Q3k (B:=2^32) (by decide) (dig (2^32) u) (Q2c (by decide) u);rw[Q0x (by decide)] at g1 g2;have g3:=Ue g1 (UR (by decide:0<2^32) h1);have g4:=Ue g2 (UR (by decide:0<2^32) (by omega:(dig (2^32) u).length<=k));refine Q2h (by decide) ?_;rw[Th];generalize (2^32)^k=K at*;omega
theorem Qcz (neg:Bool) {v:Nat} (e:Int) (h:v=0):dy (sgn neg v) e=0:=by subst h;rw[Q4t];exact Qjx e
end Go.Proofs.YtdilmfakkppgpaaGreatDoor
