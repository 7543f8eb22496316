/- Part 28 of the proof of LawParseMeans: RefSub, BndM, FlatL, RefV0. Condition: as each theorem says; none at the end. -/
import Derived.Test.YtdilmfakkppgpaaGreatDoorPkParseMeans27
set_option maxRecDepth 100000
set_option maxHeartbeats 16000000
namespace Go.Proofs.YtdilmfakkppgpaaGreatDoor
open Go.RowKit WordsM
theorem Qj2 {u v l cr X:Nat} (huv:u<=v) (h3:l<X) (h:l+u=v+cr*X):cr=0:=by
 refine Nat.eq_zero_of_not_pos fun hpos=>?_
 have h4:X<=cr*X:=Nat.le_mul_of_pos_left _ hpos
 omega
theorem Qd9 (a:Option Addr) (n c:Nat) (v:Nat) (b:Option Addr) (m d:Nat) (u:Nat) (w:World) (h1:Q0l w a n c v) (h2:Q0l w b m d u) (hn:n<=100000) (huv:u<=v):
 Calls Tryz.prog 61 #[.slice a n c,.slice b m d] w fun e w'=>∃a' n',e=.returned (.slice a' n' n')/\Q0l w' a' n' n' (v-u)/\Below w.heap.size w w':=by
 have hvA:val (2^32) (dig (2^32) v)=v:=Q0r (by decide) v
 have hvK:val (2^32) (dig (2^32) u)=u:=Q0r (by decide) u
 have hlA:=Q22 (B:=2^32) (by decide) v
 have hlK:=Q22 (B:=2^32) (by decide) u
 have hA1:=h1.len
 have hK1:=h2.len
 have hmn:m<=n:=by
  have h3:=Q1m (B:=2^32) (by decide) huv
  omega
 have hr1:=h1.rd
 have hr2:=h2.rd
 obtain ⟨A,hA⟩:∃A,dig (2^32) v=A:=⟨_,rfl⟩
 obtain ⟨K,hK⟩:∃K,dig (2^32) u=K:=⟨_,rfl⟩
 rw[hA] at hvA hlA hA1 hr1
 rw[hK] at hvK hlK hK1 hr2
 obtain ⟨i0,hi0,hz0,hz1,hz2⟩:=info_parts Q6h
 have HI:=Xh4 hi0 hz0 hz1 hz2
 have H:=Xh7 hvA hvK hlA hlK hr1 hr2 huv
 have hdg2:=fun (i:Nat) W (hb:Below w.heap.size w W)=>Q66 b m d K i W hK1 (hr2.below hb) hlK
 have HD:=Lib.hid hdg2
 clear hvA hvK hlA hlK hr1 hr2 hA hK h1 h2 hdg2 hi0 hz0 hz1 hz2 huv
 go_enter Tryz.func61,Tryz.ntmps61
 go_wp2_with fail
 go_loopw [5,6,7] (fun ov cv iv wr=>∃(i cr:Nat) (L:List Nat) (ao:Option Addr) (co:Nat),ov=.slice ao i co/\cv=.int .u64 (cr:Int)/\iv=.int .i64 (i:Int)/\cr<=1/\i<=n/\Row wr w.heap.size 152 1 ao i co (L.map (nv .u32))/\L.length=i/\Low (2^32) L/\val (2^32) L+val (2^32) (K.take i)=val (2^32) (A.take i)+cr*(2^32)^i/\Below w.heap.size w wr) (fun _ _ iv _=>n-(intOf iv).toNat)
 case atStart=>exact ⟨0,0,[],none,0,rfl,rfl,rfl,by decide,Nat.zero_le _,Row.nil_ _ _ _ _,rfl,fun x hx=>by simp at hx,by simp[val],Below.refl _ _⟩
 case round=>
  obtain ⟨i,cr,L,ao,co,rfl,rfl,rfl,hcr,hi,hrow,hLl,hLow,hval,hb⟩:=hrel
  by_cases hend:i=n
  ·have e1:K.take i=K:=List.take_of_length_le (by rw[hK1,hend];exact hmn)
   have e2:A.take i=A:=List.take_of_length_le (by rw[hA1,hend];exact Nat.le_refl _)
   rw[e1,e2,(Xo0 H),(Xo1 H)] at hval
   have hcr0:cr=0:=by
    have h3:=Q2o (B:=2^32) (by decide) L hLow
    rw[hLl] at h3
    exact Qj2 (Xe6 H) h3 hval
   subst hcr0
   rw[Nat.zero_mul,Nat.add_zero] at hval
   have hT:=Q4n ao i co L wr hLl hrow.cap.1 hrow.cap.2 (Row.rdI hrow) hLow
   rw[show val (2^32) L=v-u by omega] at hT
   have HT:=Xh2 hT hb
   have l1:¬(i:Int)<(n:Int):=by omega
   clear hT hb hval hLow hrow hend e1 e2
   go_wp2_with (refine (Xo0 HT).mono ?_;rintro e w1 ⟨n',rfl,hn',hD,rfl⟩;have HD2:=Lib.hid hD;clear hD)
   go_ret
   exact ⟨ao,n',rfl,HD2.out,(Xe1 HT)⟩
  ·have hlt:i<n:=by omega
   have l1:(i:Int)<(n:Int):=by omega
   obtain ⟨x,hx⟩:∃x,A[i]?=some x:=⟨_,List.getElem?_eq_getElem (by omega)⟩
   obtain ⟨g1,o1,hae,hg1,hcx⟩:=((Xo4 H).below hb).at_ hx
   subst hae
   have hxl:x<4294967296:=(Xo2 H) x (List.mem_of_getElem? hx)
   have hyl:K[i]?.getD 0<4294967296:=Qa1 (by decide) (Xo3 H) i
   have hst:=fun z cr' hs=>Qj1 (B:=2^32) (z:=z) (cr':=cr') (cr:=cr) hLl hx hs rfl hval
   have hd:∀W:World,W.heap=wr.heap->Calls Tryz.prog 106 #[.slice b m d,.int .i64 (i:Int)] W fun e w'=>e=.returned (.int .u64 ((K[i]?.getD 0:Nat):Int))/\∃n,w'=W.drewN n:=fun W hW=>by
    have h1:=Q66 b m d K i W (B:=w.heap.size) hK1 (RdI.keep ((Xo5 H).below hb) (fun p _=>by unfold World.cell?;rw[hW])) (Xo3 H)
    refine h1.mono ?_
    rintro e w' ⟨rfl,rfl⟩
    exact ⟨rfl,0,rfl⟩
   generalize K[i]?.getD 0=y at*
   obtain ⟨S,hS⟩:∃S,y+cr=S:=⟨_,rfl⟩
   have hSI:(y:Int)+(cr:Int)=(S:Int):=by omega
   have hSl:S<=4294967296:=by omega
   have hba:∀o nq,Below w.heap.size w ((wr.drewN nq).alloc o):=fun o nq=>(Q1w hb nq).alloc hb.size o
   have hbz:∀o nq,w.heap.size<=((wr.drewN nq).alloc o).heap.size:=fun o nq=>(hba o nq).size
   have hrr:∀o nq,Row ((wr.drewN nq).alloc o) w.heap.size 152 1 ao i co (L.map (nv .u32)):=fun o nq=>(hrow.drewN nq).alloc o
   obtain ⟨cr',Z,hcr',hZ,hZl⟩:∃cr' Z:Nat,cr'<=1/\Z+S=x+cr'*4294967296/\Z<4294967296:=by
    by_cases hlt:x<S
    ·exact ⟨1,x+4294967296-S,Nat.le_refl _,by omega,by omega⟩
    ·exact ⟨0,x-S,by omega,by omega,by omega⟩
   have hnx:=hst Z cr' (by rw[<-hZ,<-hS];omega)
   have HH:=Xh5 hnx hrr hba hbz hLow
   clear hst hrr hba hbz hb hrow hval hnx hLow hS hx
   have hwn:IntKind.u32.wrap (Z:Int)=(Z:Int):=by
    simp only[IntKind.wrap,IntKind.signed,IntKind.bits]
    simp
    omega
   by_cases hlt:x<S
   ·have hltI:(x:Int)<(S:Int):=by omega
    obtain rfl:cr'=1:=by omega
    have hZI:(x:Int)+4294967296-(S:Int)=(Z:Int):=by omega
    go_wp2_with fail
    go_quiet (first|(refine Calls.quiet_of (hd _ ?_);rfl))
    go_wp2_with (at_builtin;refine Q0o rfl (.tmp 31) (.tmp 36) 54 rfl w _ 152 i0 _ 1 4 Tryz.underlying54 (Xo0 HI) (Xo1 HI) (Xo2 HI) (Xe3 HI) rfl (by decide) w.heap.size ((Xo2 HH) _ _) ((Xo3 HH) _ _) ao i co _ rfl ((Xo1 HH) _ _) ⟨(wr.drewN nq).heap.size,0,none⟩ 1 1 [.int .u32 (Z:Int)] rfl rfl (Q2w (wr.drewN nq) #[.int .u32 (Z:Int)] _ _) (Q8l _ _) (i+1) rfl (by omega) (by omega) ?_;intro a3 c3 w3 ho3 hg3 hb3 hat3;have HO:=Xh2 ho3 hb3;clear ho3 hg3 hb3 hat3)
    refine ⟨⟨i+1,1,L++[Z],a3,c3,rfl,rfl,by simp,Nat.le_refl _,by omega,?_,by simp[hLl],Qdm (Xe4 HH) hZl,(Xo0 HH),(Xe1 HO)⟩,by simp only[intOf];omega⟩
    rw[List.map_append];exact (Xo0 HO)
   ·have hltI:¬(x:Int)<(S:Int):=by omega
    obtain rfl:cr'=0:=by omega
    have hZI:(x:Int)-(S:Int)=(Z:Int):=by omega
    go_wp2_with fail
    go_quiet (first|(refine Calls.quiet_of (hd _ ?_);rfl))
    go_wp2_with (at_builtin;refine Q0o rfl (.tmp 31) (.tmp 36) 54 rfl w _ 152 i0 _ 1 4 Tryz.underlying54 (Xo0 HI) (Xo1 HI) (Xo2 HI) (Xe3 HI) rfl (by decide) w.heap.size ((Xo2 HH) _ _) ((Xo3 HH) _ _) ao i co _ rfl ((Xo1 HH) _ _) ⟨(wr.drewN nq).heap.size,0,none⟩ 1 1 [.int .u32 (Z:Int)] rfl rfl (Q2w (wr.drewN nq) #[.int .u32 (Z:Int)] _ _) (Q8l _ _) (i+1) rfl (by omega) (by omega) ?_;intro a3 c3 w3 ho3 hg3 hb3 hat3;have HO:=Xh2 ho3 hb3;clear ho3 hg3 hb3 hat3)
    refine ⟨⟨i+1,0,L++[Z],a3,c3,rfl,rfl,by simp,Nat.zero_le _,by omega,?_,by simp[hLl],Qdm (Xe4 HH) hZl,(Xo0 HH),(Xe1 HO)⟩,by simp only[intOf];omega⟩
    rw[List.map_append];exact (Xo0 HO)
def bnd (T:Nat) (d:Dyadic):Prop:=∃m:Int,d=dy m (-(T:Int))/\m.natAbs<2^(2*T)
theorem Qku (T:Nat):bnd T 0:=⟨0,(Qi4 _).symm,by simpa using Nat.pow_pos (n:=2*T) (by decide:0<2)⟩
theorem Q46 (m:Int) (k:Nat):(m*2^k).natAbs=m.natAbs*2^k:=by
 rw[Int.natAbs_mul]
 have:((2:Int)^k)=((2^k:Nat):Int):=by simp
 rw[this,Int.natAbs_natCast]
theorem bnd.more {T S:Nat} {d:Dyadic} (h:bnd T d) (hS:T<=S):bnd S d:=by
 obtain ⟨m,rfl,hm⟩:=h
 obtain ⟨k,rfl⟩:∃k,S=T+k:=⟨S-T,by omega⟩
 refine ⟨m*2^k,?_,?_⟩
 ·have:=Qc5 m (-((T+k:Nat):Int)) k
  rw[<-this]
  congr 1
  omega
 ·rw[Q46,show 2*(T+k)=2*T+k+k by omega,Nat.pow_add,Nat.pow_add]
  have h1:1<=2^k:=Nat.pow_pos (by decide)
  calc m.natAbs*2^k<2^(2*T)*2^k:=Nat.mul_lt_mul_of_pos_right hm (by omega)
   _<=2^(2*T)*2^k*2^k:=Nat.le_mul_of_pos_right _ (by omega)
theorem bnd.add {T:Nat} {a b:Dyadic} (ha:bnd T a) (hb:bnd T b):bnd (T+1) (a+b):=by
 obtain ⟨m,rfl,hm⟩:=ha
 obtain ⟨k,rfl,hk⟩:=hb
 refine ⟨(m+k)*2^1,?_,?_⟩
 ·rw[Qju,<-Qc5 (m+k) (-((T+1:Nat):Int)) 1]
  congr 1
  omega
 ·rw[Q46,show 2*(T+1)=2*T+2 by omega,Nat.pow_add]
  have:=Int.natAbs_add_le m k
  generalize 2^(2*T)=X at*
  omega
theorem bnd.mul {T S:Nat} {a b:Dyadic} (ha:bnd T a) (hb:bnd S b):bnd (T+S) (a*b):=by
 obtain ⟨m,rfl,hm⟩:=ha
 obtain ⟨k,rfl,hk⟩:=hb
 refine ⟨m*k,?_,?_⟩
 ·rw[Qjv]
  congr 1
  omega
 ·rw[Int.natAbs_mul,show 2*(T+S)=2*T+2*S by omega,Nat.pow_add]
  exact Nat.mul_lt_mul_of_lt_of_le hm (Nat.le_of_lt hk) (Nat.pow_pos (by decide))
theorem bnd.neg {T:Nat} {a:Dyadic} (ha:bnd T a):bnd T (-a):=by
 obtain ⟨m,rfl,hm⟩:=ha
 exact ⟨-m,Qex m _,by rw[Int.natAbs_neg];exact hm⟩
theorem Qsp {d:Dyadic} {T:Nat} (h:Q63 d) (hT:69632<=T):bnd T d:=by
 rcases h with rfl|⟨m,e,rfl,_,hm,h1,h2⟩
 ·exact Qku T
 obtain ⟨k,hk⟩:∃k:Nat,e= -(T:Int)+k:=⟨(e+T).toNat,by omega⟩
 have hkT:k<=65536+T:=by omega
 refine ⟨m*2^k,by rw[hk,Qc5],?_⟩
 rw[Q46]
 have h3:(2^64)^64=2^(64*64):=(Nat.pow_mul 2 64 64).symm
 rw[h3] at hm
 obtain ⟨s,hs⟩:∃s,64*64=s:=⟨_,rfl⟩
 rw[hs] at hm
 calc m.natAbs*2^k<2^s*2^k:=Nat.mul_lt_mul_of_pos_right hm (Nat.pow_pos (by decide))
  _=2^(s+k):=(Nat.pow_add 2 s k).symm
  _<=2^(2*T):=Nat.pow_le_pow_right (by decide) (by omega)
theorem Qqf {a b e:Int} (h:dy a e=dy b e):a=b:=by
 have h1:=congrArg Dyadic.toRat h
 rw[Q69,Q69] at h1
 have h2:((2:Rat)^e)≠0:=by
  intro h0
  have h4:dy 1 e≠0:=Qok (by decide)
  refine h4 ?_
  rw[<-Dyadic.toRat_inj,Q69,h0]
  simp
 generalize (2:Rat)^e=x at h1 h2
 have h3:(a:Rat)=(b:Rat):=by grind
 exact Rat.intCast_inj.1 h3
theorem Qgl {neg:Bool} {v T:Nat} {e:Int} (hv:v%2=1) (h:bnd T (dy (sgn neg v) e)): -(T:Int)<=e/\e<=T/\v<2^(2*T):=by
 obtain ⟨m,hd,hm⟩:=h
 have hodd:=Q3t (neg:=neg) hv
 have he: -(T:Int)<=e:=by
  refine Int.not_lt.1 fun hlt=>?_
  obtain ⟨k,hk⟩:∃k:Nat,-(T:Int)=e+((k+1:Nat):Int):=⟨(-(T:Int)-e).toNat-1,by omega⟩
  rw[hk,Qc5] at hd
  have h1:=Qqf hd
  rw[h1,Int.pow_succ,<-Int.mul_assoc] at hodd
  omega
 obtain ⟨k,hk⟩:∃k:Nat,e= -(T:Int)+k:=⟨(e+T).toNat,by omega⟩
 rw[hk,Qc5] at hd
 have h1:=Qqf hd
 have h2:=congrArg Int.natAbs h1
 rw[Q46,Q72] at h2
 rw[<-h2] at hm
 have hk1:1<=2^k:=Nat.pow_pos (by decide)
 have hv1:1<=v:=by omega
 refine ⟨he,?_,Nat.lt_of_le_of_lt (Nat.le_mul_of_pos_right v (by omega)) hm⟩
 have h3:2^k<2^(2*T):=Nat.lt_of_le_of_lt (Nat.le_mul_of_pos_left _ (by omega)) hm
 have h4:=(Nat.pow_lt_pow_iff_right (a:=2) (by decide)).1 h3
 omega
theorem Qbp {neg:Bool} {v T k:Nat} {e:Int} (hc:Q37 neg v e) (h:bnd T (dy (sgn neg v) e)) (hk:2*T<=32*k):(dig (2^32) v).length<=k/\-(T:Int)<=e/\e<=T:=by
 by_cases h0:v=0
 ·obtain ⟨_,rfl⟩:=hc.1 h0
  subst h0
  rw[Q0x]
  exact ⟨Nat.zero_le _,by omega,by omega⟩
 ·obtain ⟨h1,h2,h3⟩:=Qgl (hc.2 h0) h
  refine ⟨Q23 (by decide) (Nat.lt_of_lt_of_le h3 ?_),h1,h2⟩
  rw[<-Nat.pow_mul]
  exact Nat.pow_le_pow_right (by decide) hk
end Go.Proofs.YtdilmfakkppgpaaGreatDoor
namespace Go.Proofs.YtdilmfakkppgpaaGreatDoor
open Go Go.RowKit
section
variable {P:Program}
def Qkv (l:List Oper) (n:Nat):Bool:=(List.range n).all fun k=>(List.range (n+1)).any fun j=>decide (k<j) && (match l[j]? with|some o=>(Q34 o).contains k|none=>false)
theorem Qbq {l:List Oper} {n:Nat} (h:Qkv l n=true) {D:Nat->Bool} (hcl:∀j oj,l[j]?=some oj->D j=true->∀i∈Q34 oj,D i=true):∀m k,n-k=m->k<=n->D k=false->D n=false:=by
 intro m
 induction m using Nat.strongRecOn with
 |ind m ih=>
  intro k hm hk hD
  by_cases hkn:k=n
  ·subst hkn;exact hD
  ·have h1:=List.all_eq_true.1 h k (by rw[List.mem_range];omega)
   obtain ⟨j,hj,h2⟩:=List.any_eq_true.1 h1
   rw[List.mem_range] at hj
   rw[Bool.and_eq_true,decide_eq_true_eq] at h2
   obtain ⟨h3,h4⟩:=h2
   cases hoj:l[j]? with
   |none=>rw[hoj] at h4;cases h4
   |some oj=>
    rw[hoj] at h4
    have h5:k∈Q34 oj:=by simpa using h4
    have hDj:D j=false:=by
     cases hb:D j with
     |false=>rfl
     |true=>have:=hcl j oj hoj hb k h5;rw[hD] at this;cases this
    exact ih (n-j) (by omega) j rfl (by omega) hDj
def Qsq (P:Program) (ops:Array Oper) (C:World->Prop) (V:Nat->Value->World->Prop) (a0:Act) (Fin:World->Prop):List Oper->Prop
 |[o]=>∀a w,C w->Q8n ops a0 a->(∀i∈Q34 o,V i (Q0e ops a i) w)->Q26 P (fun _ w'=>Fin w') ((execOp a.eval o).run P w)
 |_=>False
theorem Q1o {Q:Exit->Act->World->Prop} {id:Nat} {l:List Oper} {a0:Act} {w:World} (hm:P.follows .mixedOrders=true) (n:Nat) (hn:l.length=n+1) (C:World->Prop) (hC:∀w w',C w->Below w.heap.size w w'->C w') (V:Nat->Value->World->Prop) (hV:∀i v w w',V i v w->Below w.heap.size w w'->V i v w') (Fin:World->Prop)
 (hB:Q6a l a0.tmps.size=true) (hA:Qkv l n=true) (hG:(l.all fun o=>o.guard.isNone)=true) (hD:(l.zipIdx.all fun p=>p.1.dst.isSome || decide (p.2=n))=true) (h0:C w.drew)
 (step:Q2z P Qi7 l.toArray C V a0 (l.take n) 0) (last:Qsq P l.toArray C V a0 Fin (l.drop n)) (fin:∀vs w,Fin w->Q .normal (Q10 vs l 0 a0) w):(Code.region id l.toArray true).wp P Q a0 w:=by
 have hguard:∀(k:Nat) (o:Oper),l[k]?=some o->∀y,Region.wanted o y=true:=fun k o ho y=>by
  have h1:=List.all_eq_true.1 hG o (List.mem_of_getElem? ho)
  unfold Region.wanted
  cases hg:o.guard with
  |none=>rfl
  |some g=>rw[hg] at h1;cases h1
 have hno:∀(D:Nat->Bool) (vs:Nat->Value) (i:Nat) (o:Oper) (v:Value) (w:World),l[i]?=some o->o.dst=none->(if D n=true then Fin w else (C w/\∀j,D j=true->V j (Q2q vs i v j) w))->(if D n=true then Fin w else (C w/\∀j,D j=true->V j (vs j) w)):=by
  intro D vs i o v w hi hd h
  have hin:i=n:=by
   have hm:(o,i)∈l.zipIdx:=by rw[List.mem_zipIdx_iff_getElem?];exact hi
   have h1:=List.all_eq_true.1 hD _ hm
   simpa[hd] using h1
  subst hin
  split at h
  ·rename_i hDn;rw[if_pos hDn];exact h
  ·rename_i hDn
   rw[if_neg hDn]
   refine ⟨h.1,fun j hj=>?_⟩
   have:=h.2 j hj
   unfold Q2q at this
   rwa[if_neg (fun e=>by subst e;exact hDn hj)] at this
 have hall:∀(k:Nat) (o:Oper),l[k]?=some o->Q5l P l.toArray (fun D vs w=>if D n=true then Fin w else (C w/\∀j,D j=true->V j (vs j) w)) a0 k o:=by
  intro k o ho a w D hI hag hk hdeps hcl
  have hkn:k<=n:=by have:=(List.getElem?_eq_some_iff.1 ho).1;omega
  have hDn:D n=false:=Qbq hA (D:=D) (fun j oj hj=>hcl j oj (by simpa using hj)) _ k rfl hkn hk
  have hDn':¬D n=true:=by rw[hDn];decide
  simp only[hDn] at hI
  obtain ⟨hCw,hVw⟩:=hI
  have hdv:∀i∈Q34 o,V i (Q0e l.toArray a i) w:=fun i hi=>hVw i (hdeps i hi)
  refine ⟨hguard k o ho _,?_⟩
  by_cases hkl:k=n
  ·subst hkl
   have hdrop:l.drop k=[o]:=by
    rw[List.drop_eq_getElem_cons (by omega),List.drop_of_length_le (by omega)]
    rw[(List.getElem?_eq_some_iff.1 ho).2]
   rw[hdrop] at last
   have h1:=last a w hCw hag hdv
   have hK:∀u w',Fin w'->(if Q36 D k k=true then Fin w' else (C w'/\∀j,Q36 D k j=true->V j (Q2q (Q0e l.toArray a) k u j) w')):=fun u w' h=>by rw[Q43,if_pos rfl];exact h
   revert h1
   generalize (execOp a.eval o).run P w=res
   intro h1
   cases res with
   |ok x w'=>
    cases x with
    |value u=>exact hK u w' h1
    |enter f args=>
     refine Calls.mono h1 ?_
     rintro e w'' ⟨v,rfl,hf⟩
     exact ⟨v,rfl,hK v w'' hf⟩
    |skip=>exact hK undef w' h1
    |_=>exact h1.elim
   |halt x w'=>exact h1.elim
  ·have htake:(l.take n)[k]?=some o:=by rw[List.getElem?_take,if_pos (by omega)];exact ho
   have h1:=Q2z.at_ _ _ _ _ step htake
   rw[Nat.zero_add] at h1
   have h1:=h1 a w hCw hag hdv
   rw[if_pos (hguard k o ho _)] at h1
   have hK:∀u w',Below w.heap.size w w'->V k u w'->(if Q36 D k n=true then Fin w' else (C w'/\∀j,Q36 D k j=true->V j (Q2q (Q0e l.toArray a) k u j) w')):=fun u w' hb hu=>by
    have e:Q36 D k n=false:=by unfold Q36;rw[if_neg (fun e=>hkl e.symm)];exact hDn
    rw[e,if_neg (by decide)]
    refine ⟨hC _ _ hCw hb,fun j hj=>?_⟩
    unfold Q2q
    unfold Q36 at hj
    by_cases hjk:j=k
    ·subst hjk;rw[if_pos rfl];exact hu
    ·rw[if_neg hjk]
     rw[if_neg hjk] at hj
     exact hV _ _ _ _ (hVw j hj) hb
   revert h1
   generalize (execOp a.eval o).run P w=res
   intro h1
   cases res with
   |ok x w'=>
    cases x with
    |value u=>exact hK u w' h1.1 h1.2
    |enter f args=>
     refine Calls.mono h1 ?_
     rintro e w'' ⟨v,rfl,hb,hv⟩
     exact ⟨v,rfl,hK v w'' hb hv⟩
    |skip=>exact hK undef w' h1.1 h1.2
    |_=>exact h1.elim
   |halt x w'=>exact h1.elim
 have hallX:∀(r:List Oper) (k:Nat),(∀(i:Nat) o,r[i]?=some o->l[k+i]?=some o)->Q3g P l.toArray (fun D vs w=>if D n=true then Fin w else (C w/\∀j,D j=true->V j (vs j) w)) a0 r k:=by
  intro r
  induction r with
  |nil=>intro k _;trivial
  |cons o r ih=>
   intro k h
   refine ⟨hall k o (by simpa using h 0 o rfl),ih (k+1) fun i o' ho'=>?_⟩
   have:=h (i+1) o' (by simpa using ho')
   rwa[show k+(i+1)=k+1+i by omega] at this
 refine Q3h hm (fun D vs w=>if D n=true then Fin w else (C w/\∀j,D j=true->V j (vs j) w)) (fun i o hi hd D vs v w h=>hno D vs i o v w hi hd h) hB (fun vs=>?_) (hallX l 0 fun i o h=>by rw[Nat.zero_add];exact h) (fun D vs w hall h=>?_)
 ·exact ⟨h0,fun j hj=>by cases hj⟩
 ·have hDn:=hall n (by omega)
  simp only[hDn,if_true] at h
  exact fin vs w h
end
end Go.Proofs.YtdilmfakkppgpaaGreatDoor
namespace Go.Proofs.YtdilmfakkppgpaaGreatDoor
open Go.RowKit WordsM
def Q4h (w:World) (u:Value) (D:Dyadic):Prop:=∃n a l c e v,u=.agg #[.bool n,.slice a l c,.int .i64 e]/\Q0l w a l c v/\Q37 n v e/\dy (sgn n v) e=D
theorem Q4h.step {w w':World} {u:Value} {D:Dyadic} (h:Q4h w u D) (hb:Below w.heap.size w w'):Q4h w' u D:=by
 obtain ⟨n,a,l,c,e,v,rfl,h1,h2,h3⟩:=h
 exact ⟨n,a,l,c,e,v,rfl,h1.step hb,h2,h3⟩
def Qgm (w:World) (D:Dyadic) (r:Ending) (w':World):Prop:=∃u,r=.returned u/\Q4h w' u D/\Below w.heap.size w w'
theorem Q0l.box3 {w:World} {a:Option Addr} {n c v r:Nat} {v0 v1 v2:Value} (h:Q0l w a n c v) (hN:Q04 w r v0 v1 v2) (h0:∀x:Nat,v0≠nv .u32 x) (h1:∀x:Nat,v1≠nv .u32 x) (h2:∀x:Nat,v2≠nv .u32 x) (u0 u1 u2:Value):
 Q0l (((w.setCell ⟨r,0,none⟩ u0).setCell ⟨r,1,none⟩ u1).setCell ⟨r,2,none⟩ u2) a n c v:=
 ⟨h.len,h.cap,h.most,(h.rd.store3 hN h0 h1 h2 u0 u1 u2).more (Q14 _ _ _ _ _)⟩
theorem Q0l.box {w:World} {a:Option Addr} {n c v r:Nat} {b0:Bool} {a0:Option Addr} {n0 c0:Nat} {e0:Int} (h:Q0l w a n c v) (hN:Q04 w r (.bool b0) (.slice a0 n0 c0) (.int .i64 e0)) (u0 u1 u2:Value):
 Q0l (((w.setCell ⟨r,0,none⟩ u0).setCell ⟨r,1,none⟩ u1).setCell ⟨r,2,none⟩ u2) a n c v:=
 h.box3 hN (fun _=>by simp[nv]) (fun _=>by simp[nv]) (fun _=>by simp[nv]) u0 u1 u2
theorem Q2f {P:Program} {Fin:World->Prop} {w':World} {res:Result Next} (hr:res=.ok .skip w') (h:Fin w'):Q26 P (fun _ w=>Fin w) res:=by rw[hr];exact h
def Q5o:List (Nat × (Value->World->Prop))->Nat->Option (Value->World->Prop)
 |[],_=>none
 |(i,φ)::r,x=>if x=i then some φ else Q5o r x
def Q1u (φ:Value->World->Prop):Prop:=∀v w w',φ v w->Below w.heap.size w w'->φ v w'
theorem Q1c:∀{l:List (Nat × (Value->World->Prop))},(∀p∈l,Q1u p.2)->∀i φ,Q5o l i=some φ->∀v w w',φ v w->Below w.heap.size w w'->φ v w'
 |[],_,i,φ,h=>by cases h
 |(j,ψ)::r,hs,i,φ,h=>by
  unfold Q5o at h
  split at h
  ·injection h with h
   subst h
   exact hs (j,ψ) (by simp)
  ·exact Q1c (fun p hp=>hs p (by simp[hp])) i φ h
def SlD (k v:Nat) (u:Value) (w:World):Prop:=∃a n c,u=.slice a n c/\n<=k/\Q0l w a n c v
theorem SlD.stable (k v:Nat):Q1u (SlD k v):=fun u w w' h hb=>by
 obtain ⟨a,n,c,rfl,h1,h2⟩:=h
 exact ⟨a,n,c,rfl,h1,h2.step hb⟩
theorem Q1d (D:Dyadic):Q1u (fun u w=>Q4h w u D):=fun _ _ _ h hb=>h.step hb
theorem Qsr {i:Nat} {φ:Value->World->Prop} (h:Q1u φ):∀p∈[(i,φ)],Q1u p.2:=fun p hp=>by rw[List.mem_singleton] at hp;subst hp;exact h
theorem Qj3 {i j:Nat} {φ ψ:Value->World->Prop} (h:Q1u φ) (h':Q1u ψ):∀p∈[(i,φ),(j,ψ)],Q1u p.2:=fun p hp=>by
 rcases List.mem_cons.1 hp with rfl|hp
 ·exact h
 ·exact Qsr h' p hp
theorem Qw3 {i j k:Nat} {φ ψ χ:Value->World->Prop} (h:Q1u φ) (h':Q1u ψ) (h'':Q1u χ):∀p∈[(i,φ),(j,ψ),(k,χ)],Q1u p.2:=fun p hp=>by
 rcases List.mem_cons.1 hp with rfl|hp
 ·exact h
 ·exact Qj3 h' h'' p hp
theorem Qut {i j k l:Nat} {φ ψ χ ω:Value->World->Prop} (h:Q1u φ) (h':Q1u ψ) (h'':Q1u χ) (h3:Q1u ω):∀p∈[(i,φ),(j,ψ),(k,χ),(l,ω)],Q1u p.2:=fun p hp=>by
 rcases List.mem_cons.1 hp with rfl|hp
 ·exact h
 ·exact Qw3 h' h'' h3 p hp
def Quu (w:World) (r:Nat) (D:Dyadic) (W:World):Prop:=∃n a l c e v,Q04 W r (.bool n) (.slice a l c) (.int .i64 e)/\Q0l W a l c v/\Q37 n v e/\dy (sgn n v) e=D/\Below w.heap.size w W
theorem Q4l {w W:World} {r:Nat} {D:Dyadic} {b0:Bool} {a0:Option Addr} {n0 c0:Nat} {e0:Int} (hr:w.heap.size<=r) (hb:Below w.heap.size w W) (hN:Q04 W r (.bool b0) (.slice a0 n0 c0) (.int .i64 e0)) {n:Bool} {a:Option Addr} {l c v:Nat} {e:Int} (hd:Q0l W a l c v) (hc:Q37 n v e) (hD:dy (sgn n v) e=D):
 Quu w r D (((W.setCell ⟨r,0,none⟩ (.bool n)).setCell ⟨r,1,none⟩ (.slice a l c)).setCell ⟨r,2,none⟩ (.int .i64 e)):=
 ⟨n,a,l,c,e,v,hN.store _ _ _,hd.box hN _ _ _,hc,hD,Q04.below hb hr _ _ _⟩
theorem Q0l.none_of {w:World} {a:Option Addr} {n c v:Nat} (h:Q0l w a n c v) (h0:v=0):n=0:=by rw[<-h.len,h0,Q0x];rfl
theorem Q0l.zero_of {w:World} {a:Option Addr} {n c v:Nat} (h:Q0l w a n c v) (h0:n=0):v=0:=(Q4m (B:=2^32) (by decide)).1 (List.length_eq_zero_iff.1 (by rw[h.len,h0]))
theorem Qss {w:World} {a:Option Addr} {n c v:Nat} (h:Q0l w a n c v):n<=9223372036854775807:=Nat.le_trans h.cap h.most
theorem Qj4 {neg:Bool} {e:Int} {L:List Nat} (h:Q0h neg e L) (hl:Low (2^64) L):Q37 neg (val (2^64) L) e:=by
 rcases Q2c h hl with ⟨rfl,hn,he⟩|⟨_,ho,_⟩
 ·exact ⟨fun _=>⟨hn,he⟩,fun h=>absurd rfl h⟩
 ·exact ⟨fun e=>(by rw[e] at ho;cases ho),fun _=>ho⟩
theorem Qj5 {u v k:Nat} (h1:(dig (2^32) v).length<=k) (h2:(dig (2^32) u).length+1<=k+1):(dig (2^32) (v+u)).length<=k+1:=by
 have g1:=Q2o (B:=2^32) (by decide) (dig (2^32) v) (Q22 (by decide) v)
 have g2:=Q2o (B:=2^32) (by decide) (dig (2^32) u) (Q22 (by decide) u)
 rw[Q0r (by decide)] at g1 g2
 have g3:=Nat.lt_of_lt_of_le g1 (Nat.pow_le_pow_right (by decide:0<2^32) h1)
 have g4:=Nat.lt_of_lt_of_le g2 (Nat.pow_le_pow_right (by decide:0<2^32) (by omega:(dig (2^32) u).length<=k))
 refine Q23 (by decide) ?_
 rw[Nat.pow_succ]
 generalize (2^32)^k=K at*
 omega
theorem Q95 (neg:Bool) {v:Nat} (e:Int) (h:v=0):dy (sgn neg v) e=0:=by subst h;rw[Q4d];exact Qi4 e
theorem Qti (w:World) (x0 x1 x2 r0 r1 r2:Value) (T1 T3:TypeId):
 ((w.alloc (.cells #[x0,x1,x2] T1)).alloc (.cells #[r0,r1,r2] T3)).heap.size=w.heap.size+2/\Q04 ((w.alloc (.cells #[x0,x1,x2] T1)).alloc (.cells #[r0,r1,r2] T3)) w.heap.size x0 x1 x2/\Q04 ((w.alloc (.cells #[x0,x1,x2] T1)).alloc (.cells #[r0,r1,r2] T3)) (w.heap.size+1) r0 r1 r2/\Below w.heap.size w ((w.alloc (.cells #[x0,x1,x2] T1)).alloc (.cells #[r0,r1,r2] T3)):=by
 have hs1:(w.alloc (.cells #[x0,x1,x2] T1)).heap.size=w.heap.size+1:=World.size_alloc _ _
 have hb1:Below w.heap.size w (w.alloc (.cells #[x0,x1,x2] T1)):=(Below.refl _ _).alloc (Nat.le_refl _) _
 have hb2:Below (w.alloc (.cells #[x0,x1,x2] T1)).heap.size (w.alloc (.cells #[x0,x1,x2] T1)) ((w.alloc (.cells #[x0,x1,x2] T1)).alloc (.cells #[r0,r1,r2] T3)):=(Below.refl _ _).alloc (Nat.le_refl _) _
 refine ⟨by rw[World.size_alloc,hs1],(Q04.new w _ _ _ _).step hb2 (Q0f _ _),?_,Below.next0 hb1 hb2⟩
 have h:=Q04.new (w.alloc (.cells #[x0,x1,x2] T1)) r0 r1 r2 T3
 rwa[hs1] at h
theorem Qw4 (w:World) (x0 x1 x2 y0 y1 y2 r0 r1 r2:Value) (T1 T2 T3:TypeId):
 (((w.alloc (.cells #[x0,x1,x2] T1)).alloc (.cells #[y0,y1,y2] T2)).alloc (.cells #[r0,r1,r2] T3)).heap.size=w.heap.size+3/\Q04 (((w.alloc (.cells #[x0,x1,x2] T1)).alloc (.cells #[y0,y1,y2] T2)).alloc (.cells #[r0,r1,r2] T3)) w.heap.size x0 x1 x2/\Q04 (((w.alloc (.cells #[x0,x1,x2] T1)).alloc (.cells #[y0,y1,y2] T2)).alloc (.cells #[r0,r1,r2] T3)) (w.heap.size+1) y0 y1 y2/\
   Q04 (((w.alloc (.cells #[x0,x1,x2] T1)).alloc (.cells #[y0,y1,y2] T2)).alloc (.cells #[r0,r1,r2] T3)) (w.heap.size+2) r0 r1 r2/\Below w.heap.size w (((w.alloc (.cells #[x0,x1,x2] T1)).alloc (.cells #[y0,y1,y2] T2)).alloc (.cells #[r0,r1,r2] T3)):=by
 obtain ⟨h1,h2,h3,h4⟩:=Qti w x0 x1 x2 y0 y1 y2 T1 T2
 generalize (w.alloc (.cells #[x0,x1,x2] T1)).alloc (.cells #[y0,y1,y2] T2)=W at*
 have hb:Below W.heap.size W (W.alloc (.cells #[r0,r1,r2] T3)):=(Below.refl _ _).alloc (Nat.le_refl _) _
 have h:=Q04.new W r0 r1 r2 T3
 rw[h1] at h
 exact ⟨by rw[World.size_alloc,h1],h2.step hb (by omega),h3.step hb (by omega),h,Below.next0 h4 hb⟩
end Go.Proofs.YtdilmfakkppgpaaGreatDoor
