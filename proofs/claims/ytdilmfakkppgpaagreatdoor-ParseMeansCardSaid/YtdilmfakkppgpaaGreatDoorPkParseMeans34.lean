/- Part 34 of the proof of LawParseMeans: MeansV, DeckC, AtA, AtB. Condition: as each theorem says; none at the end. -/
import Derived.Test.YtdilmfakkppgpaaGreatDoorPkParseMeans33
set_option maxRecDepth 100000
set_option maxHeartbeats 16000000
namespace Go.Proofs.YtdilmfakkppgpaaGreatDoor
open Go.RowKit WordsM DecM
def pw (x:Dyadic):Nat->Dyadic
 |0=>1
 |k+1=>pw x k*x
theorem Qtk (x:Dyadic) (a:Nat):∀b,pw x (a+b)=pw x a*pw x b
 |0=>by simp only[pw,Nat.add_zero];grind
 |b+1=>by rw[<-Nat.add_assoc,pw,Qtk x a b,pw];grind
def Q96:List Dyadic->List Int->Dyadic
 |x::xs,k::E=>pw x k.toNat*Q96 xs E
 |_,_=>1
theorem Ql1:∀(xs:List Dyadic) (E F:List Int),E.length=F.length->(∀k∈E,0<=k)->(∀k∈F,0<=k)->Q96 xs (List.zipWith (·+·) E F)=Q96 xs E*Q96 xs F
 |[],_,_,_,_,_=>by simp only[Q96];grind
 |_::_,[],[],_,_,_=>by simp only[List.zipWith_nil_left,Q96];grind
 |x::xs,k::E,j::F,h,h1,h2=>by
  have hk:=h1 k (by simp)
  have hj:=h2 j (by simp)
  have ih:=Ql1 xs E F (by simpa using h) (fun z hz=>h1 z (by simp[hz])) (fun z hz=>h2 z (by simp[hz]))
  rw[List.zipWith_cons_cons,Q96,ih,Q96,Q96,show (k+j).toNat=k.toNat+j.toNat by omega,Qtk]
  grind
 |_::_,[],_::_,h,_,_=>by simp at h
 |_::_,_::_,[],h,_,_=>by simp at h
def Q21 (xs:List Dyadic):List Q0b->Dyadic
 |[]=>0
 |p::r=>p.1*Q96 xs p.2+Q21 xs r
theorem Q8e (xs:List Dyadic):∀(l r:List Q0b),Q21 xs (l++r)=Q21 xs l+Q21 xs r
 |[],r=>by simp only[List.nil_append,Q21];grind
 |p::l,r=>by simp only[List.cons_append,Q21,Q8e xs l r];grind
theorem Ql2 (xs:List Dyadic) (c:Q0b):∀(l:List Q0b),Q21 xs (Q6c l c)=Q21 xs l+c.1*Q96 xs c.2
 |[]=>by simp only[Q6c,Q21]
         grind
 |q::r=>by
  unfold Q6c
  split
  ·simp only[Q21,Ql2 xs c r];grind
  ·split
   ·rename_i h
    simp only[Q21,<-h];grind
   ·simp only[Q21];grind
theorem Qqq (xs:List Dyadic) (l:List Q0b):Q21 xs (Q17 l)=Q21 xs l:=by
 have key:∀(l a:List Q0b),Q21 xs (l.foldl Q6c a)=Q21 xs a+Q21 xs l:=by
  intro l
  induction l with
  |nil=>intro a;simp only[List.foldl_nil,Q21];grind
  |cons p r ih=>intro a;rw[List.foldl_cons,ih,Ql2,Q21];grind
 have:=key l []
 unfold Q17
 rw[this]
 simp only[Q21]
 grind
theorem Q7i (xs:List Dyadic):∀l:List Q0b,Q21 xs (l.filter fun p=>decide (p.1≠0))=Q21 xs l
 |[]=>rfl
 |p::r=>by
  by_cases h:p.1=0
  ·rw[List.filter_cons_of_neg (by simp[h]),Q7i xs r,Q21,h];grind
  ·rw[List.filter_cons_of_pos (by simp[h]),Q21,Q7i xs r,Q21]
theorem Qbv {xs:List Dyadic} {l P:List Q0b} (h:Q1t l=.ok P):Q21 xs P=Q21 xs l:=by
 unfold Q1t at h
 split at h
 ·cases h
 ·split at h
  ·cases h
  ·injection h with h
   rw[<-h,Q7i,Qqq]
theorem Qh5 (xs:List Dyadic):∀l:List Q0b,Q21 xs (Q47 l)= -Q21 xs l
 |[]=>by simp only[Q47,List.map_nil,Q21];grind
 |p::r=>by
  have:=Qh5 xs r
  unfold Q47 at this⊢
  rw[List.map_cons,Q21,this,Q21];grind
theorem Qh6 {xs:List Dyadic} {n:Nat} {x:Q0b} (hx:Q0m n x.2):∀b:List Q0b,(∀p∈b,Q0m n p.2)->Q21 xs (b.map (Qrm x))=x.1*Q96 xs x.2*Q21 xs b
 |[],_=>by simp only[List.map_nil,Q21];grind
 |y::r,h=>by
  have hy:=h y (by simp)
  have ih:=Qh6 (xs:=xs) hx r (fun p hp=>h p (by simp[hp]))
  rw[List.map_cons,Q21,ih,Q21]
  unfold Qrm
  rw[Ql1 xs x.2 y.2 (by rw[hx.1,hy.1]) hx.2.1 hy.2.1]
  grind
theorem Qh7 {xs:List Dyadic} {n:Nat}:∀a b:List Q0b,(∀p∈a,Q0m n p.2)->(∀p∈b,Q0m n p.2)->Q21 xs (Q64 a b)=Q21 xs a*Q21 xs b
 |[],b,_,_=>by simp only[Q64,List.flatMap_nil,Q21];grind
 |x::r,b,ha,hb=>by
  have ih:=Qh7 (xs:=xs) r b (fun p hp=>ha p (by simp[hp])) hb
  unfold Q64 at ih⊢
  rw[List.flatMap_cons,Q8e,ih,Qh6 (ha x (by simp)) b hb,Q21];grind
theorem Ql3 {xs:List Dyadic} {n:Nat} {a b P:List Q0b} (ha:∀p∈a,Q0m n p.2) (hb:∀p∈b,Q0m n p.2) (h:Qau a b=.ok P):Q21 xs P=Q21 xs a*Q21 xs b:=by
 unfold Qau at h
 split at h
 ·cases h
 ·split at h
  ·cases h
  ·rw[Qbv h,Qh7 a b ha hb]
theorem Qad {d:Dyadic} {T:Nat} (h:bnd T d) (hT:T<=2000):Q63 d:=by
 rcases Qif d with h0|⟨neg,v,e,ho,h1⟩
 ·exact .inl h0
 ·rw[h1] at h⊢
  obtain ⟨h2,h3,h4⟩:=Qgl ho h
  refine .inr ⟨sgn neg v,e,rfl,Q3t ho,?_,by omega,by omega⟩
  rw[Q72]
  have h5:(2^64)^64=2^(64*64):=(Nat.pow_mul 2 64 64).symm
  rw[h5]
  obtain ⟨s,hs⟩:∃s,64*64=s:=⟨_,rfl⟩
  rw[hs]
  exact Nat.lt_of_lt_of_le h4 (Nat.pow_le_pow_right (by decide) (by omega))
theorem Qtl {x:Dyadic} {S:Nat} (hx:bnd S x):∀k,bnd (k*S+1) (pw x k)
 |0=>by
  rw[pw,Nat.zero_mul]
  exact ⟨2,by rw[show (1:Dyadic)=dy 1 0 from rfl,show (0:Int)= -((0+1:Nat):Int)+(1:Nat) by omega,Qc5];rfl,by decide⟩
 |k+1=>by
  rw[pw,show (k+1)*S+1=(k*S+1)+S by rw[Nat.add_mul];omega]
  exact (Qtl hx k).mul hx
theorem Qqr (l:List Q0b):(Q17 l).length<=l.length:=by
 have:=Q8c l l.length
 rwa[List.take_length] at this
theorem Qqs {T:Nat} {l:List Q0b} (h:∀p∈l,bnd T p.1):∀p∈Q17 l,bnd (T+l.length) p.1:=by
 have:=Q8b h l.length
 rwa[List.take_length] at this
theorem Qae {T:Nat} {l:List Q0b} (hl:l.length<=24) (h:∀p∈l,bnd T p.1) (hT:T<=1900):∃P,Q1t l=.ok P/\P.length<=l.length/\∀p∈P,bnd (T+l.length) p.1:=by
 have hg:=Qqs h
 have hn:=Qqr l
 have hf:=List.length_filter_le (fun p:Q0b=>decide (p.1≠0)) (Q17 l)
 refine ⟨(Q17 l).filter fun p=>decide (p.1≠0),?_,Nat.le_trans hf hn,fun p hp=>hg p (List.mem_filter.1 hp).1⟩
 unfold Q1t
 rw[if_neg,if_neg (by omega)]
 intro ha
 obtain ⟨p,hp,hq⟩:=List.any_eq_true.1 ha
 have h1:=(Q1g p.1).2 (Qad (hg p hp) (by omega))
 rw[h1] at hq
 cases hq
theorem Ql4:∀a b:List Q0b,(Q64 a b).length=a.length*b.length
 |[],b=>by simp[Q64]
 |x::r,b=>by
  have ih:=Ql4 r b
  unfold Q64 at ih⊢
  rw[List.flatMap_cons,List.length_append,ih,List.length_map,List.length_cons,Nat.add_mul];omega
theorem Qt0 {T:Nat} {a b:List Q0b} (ha:∀p∈a,bnd T p.1) (hb:∀p∈b,bnd T p.1):∀p∈Q64 a b,bnd (T+T) p.1:=fun p hp=>by
 unfold Q64 at hp
 obtain ⟨x,hx,hp⟩:=List.mem_flatMap.1 hp
 obtain ⟨y,hy,rfl⟩:=List.mem_map.1 hp
 exact (ha x hx).mul (hb y hy)
theorem Qh8 {d:Int} {P:List Q0b} (h0:0<=d) (h:∀p∈P,p.2.sum<=d):Qlt P<=d:=by
 have key:∀(P:List Q0b) (e:Int),e<=d->(∀p∈P,p.2.sum<=d)->P.foldl (fun d p=>max d p.2.sum) e<=d:=by
  intro P
  induction P with
  |nil=>intro e he _;exact he
  |cons q r ih=>
   intro e he hp
   rw[List.foldl_cons]
   have:=hp q (by simp)
   exact ih _ (by omega) (fun p hp'=>hp p (by simp[hp']))
 exact key P 0 h0 h
theorem Qqt {T:Nat} {a b:List Q0b} (hl:a.length*b.length<=24) (ha:∀p∈a,bnd T p.1) (hb:∀p∈b,bnd T p.1) (hT:T<=900) (da:∀p∈a,p.2.sum<=4) (db:∀p∈b,p.2.sum<=4):∃P,Qau a b=.ok P/\P.length<=a.length*b.length/\∀p∈P,bnd (T+T+a.length*b.length) p.1:=by
 have hp:=Qt0 ha hb
 have hpl:=Ql4 a b
 obtain ⟨P,h1,h2,h3⟩:=Qae (l:=Q64 a b) (by omega) hp (by omega)
 rw[hpl] at h2 h3
 refine ⟨P,?_,h2,h3⟩
 unfold Qau
 have d1:=Qh8 (d:=4) (by decide) da
 have d2:=Qh8 (d:=4) (by decide) db
 rw[if_neg (fun h=>by omega),if_neg,h1]
 intro hany
 obtain ⟨p,hpm,hq⟩:=List.any_eq_true.1 hany
 have h4:=(Q1g p.1).2 (Qad (hp p hpm) (by omega))
 rw[h4] at hq
 cases hq
def Q54 (P:List Q0b):Prop:=Q18 1 P/\P.length<=3/\∀p∈P,bnd 20 p.1/\p.2.sum<=2
theorem Qqu {A B:List Q0b} (hA:Q54 A) (hB:Q54 B):∃P,Q1k 1 (Qde A B)=.ok P/\Q18 1 P/\(∀p∈P,bnd 100 p.1)/\∀xs,Q21 xs P=(Q21 xs A*Q21 xs B-Q21 xs A*Q21 xs A)+Q21 xs B:=by
 obtain ⟨rA,lA,sA⟩:=hA
 obtain ⟨rB,lB,sB⟩:=hB
 have eA:=Qfn rA
 have eB:=Qfn rB
 have fA:∀p∈A,Q0m 1 p.2:=fun p hp=>(rA.2.2 p hp).2.2
 have fB:∀p∈B,Q0m 1 p.2:=fun p hp=>(rB.2.2 p hp).2.2
 have m1:A.length*B.length<=9:=Nat.mul_le_mul lA lB
 have m2:A.length*A.length<=9:=Nat.mul_le_mul lA lA
 obtain ⟨P1,h1,l1,b1⟩:=Qqt (T:=20) (a:=A) (b:=B) (by omega) (fun p hp=>(sA p hp).1) (fun p hp=>(sB p hp).1) (by decide) (fun p hp=>by have:=(sA p hp).2;omega) (fun p hp=>by have:=(sB p hp).2;omega)
 obtain ⟨P2,h2,l2,b2⟩:=Qqt (T:=20) (a:=A) (b:=A) (by omega) (fun p hp=>(sA p hp).1) (fun p hp=>(sA p hp).1) (by decide) (fun p hp=>by have:=(sA p hp).2;omega) (fun p hp=>by have:=(sA p hp).2;omega)
 have r1:=Qfa rA rB h1
 have r2:=Qfa rA rA h2
 have b1':∀p∈P1,bnd 49 p.1:=fun p hp=>(b1 p hp).more (by omega)
 have b2':∀p∈Q47 P2,bnd 49 p.1:=fun p hp=>by
  obtain ⟨q,hq,rfl⟩:=List.mem_map.1 hp
  exact ((b2 q hq).neg).more (by omega)
 have lt2:(Q47 P2).length=P2.length:=by simp[Q47]
 have la:(P1++Q47 P2).length<=18:=by rw[List.length_append];omega
 obtain ⟨P3,h3,l3,b3⟩:=Qae (T:=49) (l:=P1++Q47 P2) (by omega) (fun p hp=>by
  rcases List.mem_append.1 hp with h|h
  ·exact b1' p h
  ·exact b2' p h) (by decide)
 have lb:(P3++B).length<=21:=by rw[List.length_append];omega
 obtain ⟨P4,h4,l4,b4⟩:=Qae (T:=67) (l:=P3++B) (by omega) (fun p hp=>by
  rcases List.mem_append.1 hp with h|h
  ·exact (b3 p h).more (by omega)
  ·exact ((sB p h).1).more (by omega)) (by decide)
 have r3:=Qf9 r1 (Qls r2) h3
 have r4:=Qf9 r3 rB h4
 refine ⟨P4,?_,r4,fun p hp=>(b4 p hp).more (by omega),fun xs=>?_⟩
 ·have p1:Q1k 1 (.prod [Q39 A,Q39 B])=.ok P1:=by
   simp only[Q1k,Q3n,eA,eB,h1,Option.getD]
  have p2:Q1k 1 (.prod [.pow (Q39 A) 2])=.ok P2:=by
   simp only[Q1k,Q3n,eA,Qfb,Qhl,h2,Option.getD]
  have p3:Q1k 1 (.prod [Q39 B])=.ok B:=by
   simp only[Q1k,Q3n,eB,Option.getD]
  unfold Qde
  rw[Q1k,Q3m,p1]
  simp only[Bool.false_eq_true,if_false]
  rw[Q3m,p2]
  simp only[if_true]
  rw[Qnj,h3]
  simp only
  rw[Q3m,p3]
  simp only[Bool.false_eq_true,if_false]
  rw[Qnj,h4]
  simp only
  rw[Q3m]
  rfl
 ·rw[Qbv h4,Q8e,Qbv h3,Q8e,Qh5,Ql3 fA fB h1,Ql3 fA fA h2]
  grind
theorem Qh9 {n:Bool} {e:Int} {L:List Nat} (h:Qh4 n e L):bnd 17 (Q1q n e L):=by
 obtain ⟨_,hv,h1,h2⟩:=h
 obtain ⟨k,hk⟩:∃k:Nat,e= -((17:Nat):Int)+k:=⟨(e+17).toNat,by omega⟩
 refine ⟨sgn n (val (2^64) L)*2^k,?_,?_⟩
 ·unfold Q1q
  rw[hk,Qc5]
 ·rw[Q46,Q72]
  have h3:2^k<=2^25:=Nat.pow_le_pow_right (by decide) (by omega)
  calc val (2^64) L*2^k<64*2^k:=Nat.mul_lt_mul_of_pos_right hv (Nat.pow_pos (by decide))
   _<=64*2^25:=Nat.mul_le_mul_left _ h3
   _<=2^(2*17):=by decide
def FewM (n deg:Nat) (m:Q05):Prop:=(Q0m n m.es/\Q0h m.neg m.exp m.ws)/\bnd 17 (Q1q m.neg m.exp m.ws)/\m.es.sum<=deg
theorem Q2t.few {w1 w2:World} {x:Value} {er:Int} {ts:List Q0b} (h:Q2t w1 (Q1t ts) (.returned (.tuple #[x,.int .i64 er])) w2) (hl:ts.length<=3) (ht:∀p∈ts,Q0m 1 p.2/\bnd 17 p.1/\p.2.sum<=2):∃a N c ms,x=.slice a N c/\Q0c w2 a N c ms/\Q0s 1 ms/\Q54 (ms.map Q05.term)/\Qtj w1.heap.size w2 a N:=by
 obtain ⟨_,h⟩:=h
 obtain ⟨P,hX,hlen,hbn⟩:=Qae (T:=17) (l:=ts) (by omega) (fun p hp=>(ht p hp).2.1) (by decide)
 rw[hX] at h
 obtain ⟨a,N,c,ms,he,hm,hP,ho,hN⟩:=h
 simp at he
 obtain ⟨rfl,_⟩:=he
 have hr:Q18 1 P:=Q8r (fun p hp=>(ht p hp).1) hX
 refine ⟨a,N,c,ms,rfl,hm,Qsy (by decide) (by decide) (by rw[hP];exact hr) ho,?_,hN⟩
 rw[hP]
 refine ⟨hr,by omega,fun p hp=>⟨(hbn p hp).more (by omega),?_⟩⟩
 unfold Q1t at hX
 split at hX
 ·cases hX
 ·split at hX
  ·cases hX
  ·injection hX with hX
   rw[<-hX] at hp
   obtain ⟨q,hq,hq2⟩:=(Q4z ts).2.2.1 p (List.mem_filter.1 hp).1
   rw[<-hq2]
   exact (ht q hq).2.2
def Quz (b i:Nat) (w:World) (e:Ending) (w':World):Prop:=(∃a N c ms q,e=.returned (.slice a N c)/\Q0c w' a N c ms/\Q0s 1 ms/\Q54 (ms.map Q05.term)/\Qtj w.heap.size w' a N/\Q6g w' b q/\q<=i+31)/\Q0n (·=b) w w'
theorem Qjg (b i n deg:Nat) (w:World) (h:Q6g w b i) (hi:i<=100000) (h1:1<=n) (hn:n<=4) (hd:deg<=8):
 Calls Tryz.prog 94 #[.pointer (some ⟨b,0,none⟩),.int .i64 (n:Int),.int .i64 (deg:Int)] w fun e w'=>(∃g E q,e=.returned (.slice (some ⟨g,0,none⟩) n n)/\w.heap.size<=g/\g<w'.heap.size/\Q0k w' (some ⟨g,0,none⟩) n n E/\Q0m n E/\E.sum<=deg/\Q6g w' b q/\q<=i+1+deg)/\Q0n (·=b) w w':=by
 have hmk:=run_make_row' (P:=Tryz.prog) 42 3 (.int .i64 0) 8 Tryz.underlying42 Q7z rfl .i64 .i64 n (by omega) (by omega)
 rw[Q1y] at hmk
 have hbl:=h.lt
 have hB0:Below w.heap.size w (w.alloc (.cells (Array.replicate n (nv .i64 0)) 3)):=(Below.refl _ _).alloc (Nat.le_refl _) _
 have hc:Calls Tryz.prog 14 #[.pointer (some ⟨b,0,none⟩),.int .i64 ((deg:Int)+1)] (w.alloc (.cells (Array.replicate n (nv .i64 0)) 3)) (Qux b i (deg+1) (w.alloc (.cells (Array.replicate n (nv .i64 0)) 3))):=by
  have:=Quy b i (deg+1) _ (h.call hB0) (by omega) (by omega) (by omega)
  rwa[show ((deg+1:Nat):Int)=(deg:Int)+1 from rfl] at this
 have HC:=Xh2 hc hB0
 clear hc hB0 h
 go_enter Tryz.func94,Tryz.ntmps94
 go_wp2_with (go_at_call 14;refine (Xo0 HC).mono ?_;rintro e w1 ⟨⟨x,hx,rfl⟩,hd1,ht1⟩;(have HD:=Xh2 hd1 ht1);clear hd1 ht1)
 go_loopw [8] (fun s8 wr=>Qkz w b i n deg s8 wr) (fun iv _=>(intOf iv).toNat)
 case atStart=>exact ⟨x,i+1,List.replicate n 0,rfl,by simp,fun y hy=>by rw[List.eq_of_mem_replicate hy];decide,by simp;omega,(Q3k.new w n).turn (Xe1 HD) (by omega),(Xo0 HD),by omega,(Q0n.of_below (Xe1 HC) _).trans0 (Xe1 HD)⟩
 case round=>
  obtain ⟨kk,q,E,rfl,hln,h0,hs,hrow,hdk,hq,ht⟩:=hrel
  by_cases hk:0<kk
  ·have hkI:(0:Int)<(kk:Int):=by omega
   have hsum0:0<=E.sum:=Q8d.sum0 h0
   have hcn:=Quy b q n wr hdk (by omega) (by omega) (by omega)
   have HS:=Xh6 hln h0 hs hrow hq ht
   clear hln h0 hs hrow hdk hq ht
   go_wp2_with (go_at_call 14
                refine hcn.mono ?_
                rintro e w2 ⟨⟨r,hr,rfl⟩,hd2,ht2⟩
                have hrI:(r:Int)<(n:Int):=by omega
                obtain ⟨y,hy⟩:∃y,E[r]?=some y:=⟨_,List.getElem?_eq_getElem (by rw[(Xo0 HS)];exact hr)⟩
                have hrow2:=(Xo3 HS).turn ht2 (by omega)
                have c0:=hrow2.cell r y hy
                have z0:=hrow2.free r
                have hy0:0<=y:=(Xo1 HS) y (List.mem_of_getElem? hy)
                have hy8:y<=8:=by
                 have:=Q8d (Xo1 HS) hy
                 have:=(Xo2 HS)
                 omega
                have H2:=Xh4 hy hrow2 hd2 ht2
                clear hy hrow2 hd2 ht2 hcn)
   obtain ⟨k2,hk2⟩:∃k2,kk=k2+1:=⟨kk-1,by omega⟩
   have hs:=(Xo2 HS)
   have hq:=(Xo4 HS)
   have hw:wrap64 ((kk:Int)-1)=(k2:Int):=by unfold wrap64;omega
   have hw2:(kk:Int)-1=(k2:Int):=by omega
   first
    |rw[hw]
    |rw[hw2]
   exact ⟨Qn4 (Xo0 HS) (Xo1 HS) (by omega) (Xo1 H2) (Xo2 H2) (by omega) ((Xe5 HS).trans0 (Xe3 H2)) (Xo0 H2) hbl,by simp only[intOf];omega⟩
  ·have hkI:¬(0:Int)<(kk:Int):=by omega
   have hre:Q0m n E/\E.sum<=deg:=⟨⟨hln,h0,by omega⟩,by omega⟩
   have hii:Q0k wr (some ⟨w.heap.size,0,none⟩) n n E:=⟨hln,Nat.le_refl _,by omega,(.new fun x hx=>by
    obtain ⟨j,hj,rfl⟩:=List.getElem_of_mem hx
    have h2:=Q8d h0 (List.getElem?_eq_getElem hj)
    have h3:=h0 _ hx
    omega),.inr ⟨w.heap.size,0,rfl,hrow.lt,fun j x hx=>by rw[Nat.zero_add];exact hrow.cell j x hx⟩⟩
   have HS:=Xh6 hre hii hrow.lt hdk ht hq
   clear hln h0 hs hrow hdk hq ht hre hii
   go_wp2_with fail
   go_ret
   exact ⟨⟨w.heap.size,rfl,Nat.le_refl _,(Xo2 HS),E,(Xo1 HS),(Xo0 HS).1,(Xo0 HS).2,q,(Xo3 HS),by have:=(Xe5 HS);omega⟩,(Xo4 HS)⟩
def Qwa (w:World) (b i n most deg:Nat) (s9 s10:Value) (wr:World):Prop:=∃(kk q N:Nat) (a:Option Addr) (c:Nat) (ms:List Q05) (xs:List Value),s9=.slice a N c/\s10=.int .i64 (kk:Int)/\N+kk<=most/\Q5q w.heap.size wr a N c ms xs/\(∀m∈ms,FewM n deg m)/\Q6g wr b q/\q+kk*10<=i+1+most*10/\Q0n (·=b) w wr
theorem Qn8 (b i n most deg:Nat) (w:World) (h:Q6g w b i) (hi:i<=90000) (h1:1<=n) (hn:n<=4) (hm:most<=30) (hd:deg<=8):
 Calls Tryz.prog 49 #[.pointer (some ⟨b,0,none⟩),.int .i64 (n:Int),.int .i64 (most:Int),.int .i64 (deg:Int)] w fun e w'=>(∃a N c ms q,e=.returned (.slice a N c)/\N<=most/\Q0c w' a N c ms/\(∀m∈ms,FewM n deg m)/\Q6g w' b q/\q<=i+1+most*10)/\Q0n (·=b) w w':=by
 have hbl:=h.lt
 have hc:Calls Tryz.prog 14 #[.pointer (some ⟨b,0,none⟩),.int .i64 ((most:Int)+1)] w (Qux b i (most+1) w):=by
  have:=Quy b i (most+1) _ h (by omega) (by omega) (by omega)
  rwa[show ((most+1:Nat):Int)=(most:Int)+1 from rfl] at this
 have HC:=Lib.hid hc
 clear hc h
 go_enter Tryz.func49,Tryz.ntmps49
 go_wp2_with (go_at_call 14;refine HC.out.mono ?_;rintro e w1 ⟨⟨x,hx,rfl⟩,hd1,ht1⟩;(have HD:=Xh2 hd1 ht1);clear hd1 ht1)
 go_loopw [9,10] (fun s9 s10 wr=>Qwa w b i n most deg s9 s10 wr) (fun _ iv _=>(intOf iv).toNat)
 case atStart=>exact ⟨x,i+1,0,none,0,[],[],rfl,rfl,by omega,Q5q.nil_ _ _,(fun m hm=>by cases hm),(Xo0 HD),by omega,(Xe1 HD)⟩
 case round=>
  obtain ⟨kk,q,N,a1,c1,ms,xs,rfl,rfl,hN,hM,hok,hdk,hq,ht⟩:=hrel
  by_cases hk:0<kk
  ·have hkI:(0:Int)<(kk:Int):=by omega
   have hsm:=Qdc b q wr hdk (by omega)
   have HS:=Xh6 hN hM hok hq ht hdk
   clear hN hM hok hdk hq ht
   go_wp2_with (first
    |(go_at_call 94
      refine hpw.mono ?_
      rintro e w3 ⟨⟨g,E,q3,rfl,hg1,hg2,hE,hrE,hrs,hd3,hq3⟩,ht3⟩
      have hD3:=(Xo0 H2).turn hbl ((Xo1 H2).nou) ht3
      have hw3:WordsIn w3 a2 n2 c2 L:=(Xo4 H2).turn (Xe5 H2) ht3 (fun _ h=>h)
      have htw:=(Xo2 H2).trans0 ht3
      obtain ⟨a8,c8,w8,xs8,hrun8,hD8,hb8⟩:=hD3.push (htw.size) (m:=⟨neg2,e2,L,E⟩) hw3 hE (by have:=(Xo2 H2).size;omega) hg2 (fun x hx e=>by have:=((Xo0 H2).st.lt hx).2;omega) (by have:=(Xo0 HS);omega)
      have H3:=Xh6 hD8 hb8 (And.intro hrE hrs) hd3 hq3 htw
      clear hD3 hw3 htw hD8 hb8 hrE hrs hd3 hq3 hE ht3 hpw hg1 hg2)
    |(go_at_call 22
      refine hsm.mono ?_
      rintro e w2 ⟨⟨neg2,e2,a2,n2,c2,L,rfl,hnum,hW⟩,hd2,ht2⟩
      have hM2:=(Xo1 HS).turn hbl ((Xe5 HS).nou) ht2
      have hpw:=Qjg b (q+1) n deg w2 hd2 (by have:=(Xo3 HS);omega) h1 hn hd
      have hoff:Qr7 (·=b) a2 L:=by
       rcases hW.rd with e|⟨bb,oo,rfl,hb,hc⟩
       ·exact .inl e
       cases hL:L with
       |nil=>exact .inl rfl
       |cons y r=>
        refine .inr fun x hx e=>?_
        injection hx with hx
        subst hx
        have e:bb=b:=e
        subst e
        rw[hL] at hc
        exact hd2.nou _ _ (hc 0 y rfl)
      have H2:=Xh6 hM2 hd2 ((Xo4 HS).trans0 ht2) hnum hW hoff
      clear hM2 hd2 ht2 hnum hW hoff hsm)
    |(at_builtin;refine Q0a rfl (.tmp 19) (.tmp 27) 25 25 rfl _ _ rfl rfl _ _ hrun8 ?_))
   obtain ⟨k2,hk2⟩:∃k2,kk=k2+1:=⟨kk-1,by omega⟩
   have hN:=(Xo0 HS)
   have hq:=(Xo3 HS)
   have hq3:=(Xo4 H3)
   have hw:wrap64 ((kk:Int)-1)=(k2:Int):=by unfold wrap64;omega
   have hw2:(kk:Int)-1=(k2:Int):=by omega
   first
    |rw[hw]
    |rw[hw2]
   refine ⟨⟨k2,q3,N+1,a8,c8,ms++[⟨neg2,e2,L,E⟩],xs8,rfl,rfl,by omega,(Xo0 H3),fun m hm=>?_,?_,by omega,(Xe5 H3).past (Xo1 H3)⟩,by simp only[intOf];omega⟩
   ·rcases List.mem_append.1 hm with h0|h0
    ·exact (Xo2 HS) m h0
    ·rw[List.mem_singleton] at h0
     subst h0
     exact ⟨⟨(Xo2 H3).1,(Xo3 H2).1⟩,Qh9 (Xo3 H2),(Xo2 H3).2⟩
   ·have hb8:=(Xo1 H3)
    exact (Xo3 H3).turn (fp:=fun k=>w.heap.size<=k) ⟨hb8.os,hb8.tape,hb8.output,hb8.size,fun k _ hn=>hb8.block k (Nat.lt_of_not_le hn)⟩ fun k hk=>by omega
  ·have hkI:¬(0:Int)<(kk:Int):=by omega
   have hms:=hM.st.monos fun m hm=>(hok m hm).1.2
   have HS:=Xh6 hN hms hok hq ht hdk
   clear hN hM hok hdk hq ht hms
   go_wp2_with fail
   go_ret
   exact ⟨⟨a1,N,c1,rfl,by have:=(Xo0 HS);omega,ms,(Xo1 HS),(Xo2 HS),q,(Xe5 HS),by have:=(Xo3 HS);omega⟩,(Xo4 HS)⟩
theorem Q9n (b i:Nat) (w:World) (h:Q6g w b i) (hi:i<=90000):
 Calls Tryz.prog 21 #[.pointer (some ⟨b,0,none⟩),.int .i64 1,.int .i64 3,.int .i64 2] w (Quz b i w):=by
 have hc:=Qn8 b i 1 3 2 w h hi (by decide) (by decide) (by decide) (by decide)
 go_enter Tryz.func21,Tryz.ntmps21
 go_wp2_with (first
  |(go_at_call 48
    refine hmk.mono ?_
    rintro r w2 hPO
    obtain ⟨x9,er9,rfl⟩:=hPO.pair
    obtain ⟨a9,N9,c9,ms9,rfl,hms9,hrv9,hsm9,hnp9⟩:=hPO.few (Xo3 H1) (Xe4 H1)
    have H2:=Xh5 hms9 (And.intro hrv9 hsm9) (hnp9.more (Xo1 H1).size) ((Xo0 H1).call hPO.1) ((Xo1 H1).trans0 (Q0n.of_below hPO.1 _))
    clear hPO hms9 hrv9 hsm9 hnp9 hmk)
  |(go_at_call 49
    refine hc.mono ?_
    rintro e w1 ⟨⟨a1,N1,c1,ms1,q1,rfl,hN1,hms1,hok1,hd1,hq1⟩,ht1⟩
    have hmk:=Qh1 a1 N1 c1 ms1 1 w1 hms1 (fun m hm=>(hok1 m hm).1) (by decide) (by decide) (by omega)
    have H1:=Lib.hid (And.intro hd1 (And.intro ht1 (And.intro hq1 (show (ms1.map Q05.term).length<=3/\∀p∈ms1.map Q05.term,Q0m 1 p.2/\bnd 17 p.1/\p.2.sum<=2 from ⟨by rw[List.length_map,hms1.1];exact hN1,fun p hp=>by
     obtain ⟨m,hm,rfl⟩:=List.mem_map.1 hp
     exact ⟨(hok1 m hm).1.1,(hok1 m hm).2⟩⟩))))
    clear hms1 hok1 hd1 hq1 ht1 hN1 hc))
 go_ret
 exact ⟨⟨a9,N9,c9,ms9,q1,rfl,(Xo0 H2),(Xo1 H2).1,(Xo1 H2).2,(Xo2 H2),(Xo3 H2),(Xo2 H1)⟩,(Xe4 H2)⟩
end Go.Proofs.YtdilmfakkppgpaaGreatDoor
namespace Go.Proofs.YtdilmfakkppgpaaGreatDoor
open Go.RowKit WordsM
structure Q9x where
 neg:Bool
 exp:Int
 ws:List Nat
def Q9x.val (x:Q9x):Dyadic:=Q1q x.neg x.exp x.ws
def Q9x.Ok (x:Q9x):Prop:=Q0h x.neg x.exp x.ws
def Q97 (w:World) (b o:Nat) (x:Q9x):Prop:=∃aw lw cw,w.cell? ⟨b,o,none⟩=some (.bool x.neg)/\w.cell? ⟨b,o+1,none⟩=some (.int .i64 x.exp)/\w.cell? ⟨b,o+2,none⟩=some (.slice aw lw cw)/\WordsIn w aw lw cw x.ws
theorem Q97.step {w w':World} {b o:Nat} {x:Q9x} (h:Q97 w b o x) (hb:Below w.heap.size w w') (hlt:b<w.heap.size):Q97 w' b o x:=by
 obtain ⟨aw,lw,cw,h0,h1,h2,h3⟩:=h
 exact ⟨aw,lw,cw,(hb.cell (p:=⟨b,o,none⟩) hlt).trans h0,(hb.cell (p:=⟨b,o+1,none⟩) hlt).trans h1,(hb.cell (p:=⟨b,o+2,none⟩) hlt).trans h2,h3.step hb⟩
def Q70 (w:World) (a:Option Addr) (n c:Nat) (xs:List Q9x):Prop:=
 xs.length=n/\n<=c/\c<=9223372036854775807/\(xs=[]∨∃b o,a=some ⟨b,o,none⟩/\b<w.heap.size/\∀j x,xs[j]?=some x->Q97 w b (o+j*3) x)
theorem Q70.step {w w':World} {a:Option Addr} {n c:Nat} {xs:List Q9x} (h:Q70 w a n c xs) (hb:Below w.heap.size w w'):Q70 w' a n c xs:=by
 obtain ⟨h1,h2,h3,h4⟩:=h
 refine ⟨h1,h2,h3,?_⟩
 rcases h4 with h4|⟨b,o,h5,h6,h7⟩
 ·exact .inl h4
 ·exact .inr ⟨b,o,h5,Nat.lt_of_lt_of_le h6 hb.size,fun j x hx=>(h7 j x hx).step hb h6⟩
theorem Qqv (n:Bool) (e:Int) (a:Option Addr) (l c:Nat) (L:List Nat) (w:World) (h:WordsIn w a l c L) (hi:Q0h n e L):
 Calls Tryz.prog 52 #[.agg #[.bool n,.int .i64 e,.slice a l c]] w fun r w'=>r=.returned (.bool false)/\Below w.heap.size w w':=by
 have hX:=Q04.new w (.bool n) (.int .i64 e) (.slice a l c) 41
 have hb:Below w.heap.size w (w.alloc (.cells #[.bool n,.int .i64 e,.slice a l c] 41)):=(Below.refl _ _).alloc (Nat.le_refl _) _
 obtain ⟨_,he,he2⟩:=Q3d hi h.low
 have hcm:=Nat.le_trans h.cap h.most
 have hr:=Q28 n e a l c L _ (h.step hb) (by omega) (by omega) hcm
 rw[decide_eq_true hi] at hr
 generalize hW:w.alloc (.cells #[.bool n,.int .i64 e,.slice a l c] 41)=W at hX hb hr
 have x0:=hX.c0
 have x1:=hX.c1
 have x2:=hX.c2
 have H:=Xh2 hr hb
 clear hr hb hX h hi
 go_enter Tryz.func52,Tryz.ntmps52
 go_wp2_with (go_at_call_of 53 (Value.bool n);refine (Xo0 H).mono ?_;rintro r w1 ⟨rfl,hb1⟩;have HB:=Lib.hid hb1;clear hb1)
 go_ret
 exact ⟨rfl,Below.next0 (Xe1 H) HB.out⟩
theorem Qqw (a:Option Addr) (n c:Nat) (xs:List Q9x) (w:World) (h:Q70 w a n c xs) (hok:∀x∈xs,x.Ok):
 Calls Tryz.prog 96 #[.slice a n c,.func (.func 52) #[] #[]] w fun r w'=>r=.returned (.int .i64 (-1))/\Below w.heap.size w w':=by
 have hln:=h.1
 subst hln
 have hcm:=Nat.le_trans h.2.1 h.2.2.1
 have HM:=Xh2 h hok
 clear h hok
 go_enter Tryz.func96,Tryz.ntmps96
 go_wp2_with fail
 go_loopw [8] (fun iv wr=>∃i:Nat,iv=.int .i64 (i:Int)/\i<=xs.length/\Below w.heap.size w wr) (fun iv _=>xs.length-(intOf iv).toNat)
 case atStart=>exact ⟨0,rfl,Nat.zero_le _,Below.refl _ _⟩
 case round=>
  obtain ⟨i,rfl,hi,hb⟩:=hrel
  by_cases hlt:i<xs.length
  ·have hlt':(i:Int)<(xs.length:Int):=by omega
   obtain ⟨x,hx⟩:∃x,xs[i]?=some x:=⟨_,List.getElem?_eq_getElem hlt⟩
   obtain ⟨b0,o0,rfl,hb0,hat⟩:∃b o,a=some ⟨b,o,none⟩/\b<wr.heap.size/\∀j x,xs[j]?=some x->Q97 wr b (o+j*3) x:=by
    rcases ((Xo0 HM).step hb).2.2.2 with h0|h0
    ·rw[h0] at hlt;simp at hlt
    ·exact h0
   obtain ⟨aw,lw,cw,k0,k1,k2,hw⟩:=hat i x hx
   have hcl:=Qqv x.neg x.exp aw lw cw x.ws wr hw ((Xe1 HM) x (List.mem_of_getElem? hx))
   have HC:=Xh2 hcl hb
   clear hcl hb hat hw hx
   go_wp2_with (go_at_call_of 52 aw;refine (Xo0 HC).mono ?_;rintro r w1 ⟨rfl,hb1⟩;have HB:=Lib.hid hb1;clear hb1)
   exact ⟨⟨i+1,by simp,by omega,Below.next0 (Xe1 HC) HB.out⟩,by simp only[intOf];omega⟩
  ·have hlt':¬((i:Int)<(xs.length:Int)):=by omega
   have HC:=Lib.hid hb
   clear hb
   go_wp2_with fail
   go_ret
   exact ⟨rfl,HC.out⟩
theorem Qqx (a:Option Addr) (n c:Nat) (xs:List Q9x) (w:World) (h:Q70 w a n c xs) (hok:∀x∈xs,x.Ok):
 Calls Tryz.prog 51 #[.slice a n c,.func (.func 52) #[] #[]] w fun r w'=>r=.returned (.bool false)/\Below w.heap.size w w':=by
 have hix:=Qqw a n c xs w h hok
 have H:=Lib.hid hix
 clear hix h hok
 go_enter Tryz.func51,Tryz.ntmps51
 go_wp2_with (go_at_call_of 96 a;refine H.out.mono ?_;rintro r w1 ⟨rfl,hb1⟩;have HB:=Lib.hid hb1;clear hb1)
 go_ret
 exact ⟨rfl,HB.out⟩
theorem Qbw (xs:List Dyadic):Q96 xs []=1:=by cases xs <;> rfl
theorem Qha:∀{xs:List Dyadic} {E:List Int} {p:Nat} {x:Dyadic} {z:Int},xs[p]?=some x->E[p]?=some z->Q96 xs (E.take (p+1))=Q96 xs (E.take p)*pw x z.toNat
 |x::xs,z::E,0,_,_,h1,h2=>by
  simp only[List.getElem?_cons_zero,Option.some.injEq] at h1 h2
  subst h1;subst h2
  show Q96 (x::xs) [z]=Q96 (x::xs) []*pw x z.toNat
  rw[Qbw,Q96,Qbw];grind
 |x::xs,z::E,p+1,_,_,h1,h2=>by
  have ih:=Qha (xs:=xs) (E:=E) (p:=p) (by simpa using h1) (by simpa using h2)
  rw[List.take_succ_cons,List.take_succ_cons,Q96,ih,Q96];grind
 |[],_,_,_,_,h1,_=>by simp at h1
 |_::_,[],_,_,_,_,h2=>by simp at h2
theorem Qt1 {L K:List Nat} (h1:Low (2^64) L) (h2:Low (2^64) K):(dig (2^64) (val (2^64) L*val (2^64) K)).length<=L.length+K.length:=by
 refine Q23 (by decide) ?_
 rw[Nat.pow_add]
 have a:=Q2o (B:=2^64) (by decide) L h1
 have b:=Q2o (B:=2^64) (by decide) K h2
 exact Nat.mul_lt_mul_of_lt_of_le a (Nat.le_of_lt b) (Nat.pow_pos (by decide))
def VSt (w:World) (g k:Nat) (D:Dyadic):Prop:=∃n e a l c L,Q04 w g (.bool n) (.int .i64 e) (.slice a l c)/\g<w.heap.size/\WordsIn w a l c L/\Q1q n e L=D/\l<=64*(k+1)/\-(65536*((k:Int)+1))<=e/\e<=65536*((k:Int)+1)
def SSt (w:World) (g i:Nat) (D:Dyadic):Prop:=∃n e a l c L,Q04 w g (.bool n) (.int .i64 e) (.slice a l c)/\g<w.heap.size/\WordsIn w a l c L/\Q1q n e L=D/\-589824<=e/\e<=589824/\64*(l:Int)+e<=626688+64*(i:Int)
def Qwn (D:Dyadic) (w:World) (r:Ending) (w':World):Prop:=∃n e a l c L er,r=.returned (.tuple #[.agg #[.bool n,.int .i64 e,.slice a l c],.int .i64 er])/\Qci D n e L er/\Q0h n e L/\WordsIn w' a l c L/\Below w.heap.size w w'
theorem Qv0:∀{E:List Int},(∀x∈E,0<=x)->0<=E.sum
 |[],_=>by simp
 |x::t,h=>by
  have:=Qv0 (E:=t) fun z hz=>h z (List.mem_cons_of_mem _ hz)
  have:=h x (List.mem_cons_self ..)
  rw[List.sum_cons];omega
theorem Qbx {E:List Int} (h0:∀x∈E,0<=x) (p:Nat):0<=(E.take p).sum/\(E.take p).sum<=E.sum:=by
 have h1:(E.take p).sum+(E.drop p).sum=E.sum:=by rw[<-List.sum_append,List.take_append_drop]
 have h2:=Qv0 (E:=E.take p) fun x hx=>h0 x (List.mem_of_mem_take hx)
 have h3:=Qv0 (E:=E.drop p) fun x hx=>h0 x (List.mem_of_mem_drop hx)
 omega
theorem Qea {E:List Int} {p:Nat} {z:Int} (h:E[p]?=some z):(E.take (p+1)).sum=(E.take p).sum+z:=by
 rw[Q5r h,List.sum_append];simp
def Qv1 (w:World) (g4 g6:Nat) (X:List Dyadic) (ms:List Q05) (s24:Value) (wr:World):Prop:=∃i:Nat,s24=.int .i64 (i:Int)/\i<=ms.length/\SSt wr g6 i (Q21 X ((ms.take i).map Q05.term))/\Q04 wr g4 (.bool false) (.int .i64 0) (.slice none 0 0)/\Below w.heap.size w wr
def Qwo (W:World) (B g9:Nat) (C:Dyadic) (X:List Dyadic) (E:List Int) (s33:Value) (wr:World):Prop:=∃p:Nat,s33=.int .i64 (p:Int)/\p<=E.length/\VSt wr g9 (E.take p).sum.toNat (C*Q96 X (E.take p))/\Below B W wr
def AtIn (W:World) (B g9 k q:Nat) (C x:Dyadic) (s39:Value) (wr:World):Prop:=∃j:Nat,s39=.int .i64 (j:Int)/\j<=q/\VSt wr g9 (k+j) (C*pw x j)/\Below B W wr
theorem Q0k.getz {w:World} {be oe le ce:Nat} {E:List Int} (h:Q0k w (some ⟨be,oe,none⟩) le ce E) {q:Nat} {z:Int} (hz:E[q]?=some z):w.cell? ⟨be,oe+q,none⟩=some (.int .i64 z):=by
 obtain ⟨b,o,e,_,hc⟩:=h.rd.at_ hz
 injection e with e
 injection e with e1 e2
 subst e1;subst e2
 exact hc
theorem Qhb {n m:Bool} {e f:Int} {L K:List Nat}:Q1q (n != m) (e+f) (dig (2^64) (val (2^64) L*val (2^64) K))=Q1q n e L*Q1q m f K:=by
 rw[Q7q,<-Qi5,<-Qjv];rfl
theorem Qn9 (a:Option Addr) (n c:Nat) (ms:List Q05) (b:Option Addr) (m d:Nat) (xs:List Q9x) (w:World) (h:Q0c w a n c ms) (hr:Q0s m ms) (hx:Q70 w b m d xs) (hok:∀x∈xs,x.Ok) (hT:Q24 w):
 Calls Tryz.prog 23 #[.slice a n c,.slice b m d] w (Qwn (Q21 (xs.map Q9x.val) (ms.map Q05.term)) w):=by
 have hm4:=hr.2.1
 have hn24:n<=24:=by have:=hr.2.2.1;rw[h.1] at this;exact this
 have hln:=h.1
 have hlm:=hx.1
 have hcm1:=Nat.le_trans h.2.1 h.2.2.1
 have hcm2:=Nat.le_trans hx.2.1 hx.2.2.1
 have hpr:∀W,Below w.heap.size w W->Calls Tryz.prog 45 #[.slice a n c,.int .i64 (m:Int)] W fun r w'=>r=.returned (.bool true)/\Below W.heap.size W w':=fun W hb=>(Q2d a n c ms m W (h.step hb) (by omega)).mono fun r w' ⟨hy,hb'⟩=>by
  obtain ⟨y,rfl,hy⟩:=hy
  have:y=true:=hy.2 hr
  exact ⟨by rw[this],hb'⟩
 have hhas:∀W,Below w.heap.size w W->Calls Tryz.prog 51 #[.slice b m d,.func (.func 52) #[] #[]] W fun r w'=>r=.returned (.bool false)/\Below W.heap.size W w':=fun W hb=>Qqx b m d xs W (hx.step hb) hok
 have hb4:Below w.heap.size w (w.alloc (.cells #[.bool false,.int .i64 0,.slice none 0 0] 41)):=(Below.refl _ _).alloc (Nat.le_refl _) _
 have hN4:=Q04.new w (.bool false) (.int .i64 0) (.slice none 0 0) 41
 have hl4:=Q0f w (.cells #[.bool false,.int .i64 0,.slice none 0 0] 41)
 obtain ⟨X,hX⟩:∃X,xs.map Q9x.val=X:=⟨_,rfl⟩
 obtain ⟨F,hF⟩:∃F,Q21 X (ms.map Q05.term)=F:=⟨_,rfl⟩
 rw[hX,hF]
 have H:=Xh9 h hr hx hok hT hpr hhas hX hF
 have H4:=Xh3 hb4 hN4 hl4
 clear h hr hx hok hT hpr hhas hb4 hN4 hl4 hX hF
 go_enter Tryz.func23,Tryz.ntmps23
 go_wp2_with (first
  |(go_at_call 51
    refine ((Xo6 H) _ H1.out).mono ?_
    rintro r w2 ⟨rfl,hb2⟩
    have H2:=Xh2 (Below.next0 H1.out hb2) hb2
    clear hb2)
  |(go_at_call 45
    refine ((Xo5 H) _ (Xo0 H4)).mono ?_
    rintro r w1 ⟨rfl,hb1⟩
    have H1:=Lib.hid (Below.next0 (Xo0 H4) hb1)
    have H1b:=Lib.hid hb1
    clear hb1))
 have hb6:Below w2.heap.size w2 (w2.alloc (.cells #[.bool false,.int .i64 0,.slice none 0 0] 41)):=(Below.refl _ _).alloc (Nat.le_refl _) _
 have hN6:=Q04.new w2 (.bool false) (.int .i64 0) (.slice none 0 0) 41
 have hl6:=Q0f w2 (.cells #[.bool false,.int .i64 0,.slice none 0 0] 41)
 have hg6:w.heap.size<w2.heap.size:=Nat.lt_of_lt_of_le (Xe2 H4) (Nat.le_trans H1b.out.size (Xe1 H2).size)
 have hN4b:=(((Xo1 H4).step H1b.out (Xe2 H4)).step (Xe1 H2) (Nat.lt_of_lt_of_le (Xe2 H4) H1b.out.size)).step hb6 hg6
 have hbw6:=Below.next0 (Xo0 H2) hb6
 go_loopw [24] (fun s24 wr=>Qv1 w w.heap.size w2.heap.size X ms s24 wr) (fun iv _=>n-(intOf iv).toNat)
 case atStart=>exact ⟨0,rfl,Nat.zero_le _,⟨false,0,none,0,0,[],hN6,hl6,WordsIn.nil_ _,rfl,by decide,by decide,by decide⟩,hN4b,hbw6⟩
 case round=>
  clear hb6 hN6 hl6 hN4b hbw6
  obtain ⟨i,rfl,hi,hS,hg4,hb⟩:=hrel
  rename World=>wl
  rw[hln] at hi
  by_cases hlt:i<n
  ·have hlt':(i:Int)<(n:Int):=by omega
   obtain ⟨t,ht⟩:∃t,ms[i]?=some t:=⟨_,List.getElem?_eq_getElem (by omega)⟩
   obtain ⟨b0,o0,rfl,hb0,hat⟩:∃bb o,a=some ⟨bb,o,none⟩/\bb<wl.heap.size/\∀j m,ms[j]?=some m->Q4a wl bb (o+j*4) m:=by
    rcases ((Xo0 H).step hb).2.2.2 with h0|h0
    ·rw[h0] at ht;simp at ht
    ·exact h0
   obtain ⟨aw,lw,cw,ae,le,ce,k0,k1,k2,k3,hw,he,hx1,hx2⟩:=hat i t ht
   have hkx:OkM m t:=(Xo1 H).2.2.2.1 t (List.mem_of_getElem? ht)
   have hel:t.es.length=m:=hkx.1.1.1
   obtain ⟨be,oe,rfl,hbe⟩:∃be oe,ae=some ⟨be,oe,none⟩/\be<wl.heap.size:=by
    rcases he.rd with h0|⟨bb,oo,e,hbb,_⟩
    ·exfalso
     have h1:=(Xo1 H).1
     rw[h0] at hel
     simp at hel;omega
    ·exact ⟨bb,oo,e,hbb⟩
   have hle:le=m:=by rw[<-he.len];exact hel
   have hle4:le<=4:=by omega
   have HLE:=Lib.hid hle
   clear hle
   have hcl:=Nat.le_trans he.cap he.most
   obtain ⟨hlw,he1,he2⟩:=Q3d hkx.1.2 hw.low
   rw[hw.len] at hlw
   have hX8:=Q2s.new wl (.bool t.neg) (.int .i64 t.exp) (.slice aw lw cw) (.slice (some ⟨be,oe,none⟩) le ce) 44
   have hb8:Below wl.heap.size wl (wl.alloc (.cells #[.bool t.neg,.int .i64 t.exp,.slice aw lw cw,.slice (some ⟨be,oe,none⟩) le ce] 44)):=(Below.refl _ _).alloc (Nat.le_refl _) _
   have hs8:=World.size_alloc wl (.cells #[.bool t.neg,.int .i64 t.exp,.slice aw lw cw,.slice (some ⟨be,oe,none⟩) le ce] 44)
   generalize hW8:wl.alloc (.cells #[.bool t.neg,.int .i64 t.exp,.slice aw lw cw,.slice (some ⟨be,oe,none⟩) le ce] 44)=W8 at hX8 hb8 hs8
   have hN9:=Q04.new W8 (.bool t.neg) (.int .i64 t.exp) (.slice aw lw cw) 41
   have hb9:Below W8.heap.size W8 (W8.alloc (.cells #[.bool t.neg,.int .i64 t.exp,.slice aw lw cw] 41)):=(Below.refl _ _).alloc (Nat.le_refl _) _
   have hl9:=Q0f W8 (.cells #[.bool t.neg,.int .i64 t.exp,.slice aw lw cw] 41)
   generalize hW9:W8.alloc (.cells #[.bool t.neg,.int .i64 t.exp,.slice aw lw cw] 41)=W9 at hN9 hb9 hl9
   have hX9:=hX8.step hb9 (by omega)
   have m0:=hX8.c0
   have m1:=hX8.c1
   have m2:=hX8.c2
   have m3:=hX9.c3
   have hb89:=Below.next0 hb8 hb9
   have hg9:wl.heap.size<W8.heap.size:=by omega
   rw[hs8] at hN9 hl9 hg9
   have hE0:∀x∈t.es,0<=x:=hkx.1.1.2.1
   have hE8:t.es.sum<=8:=hkx.1.1.2.2
   have hv0:VSt W9 (wl.heap.size+1) (t.es.take 0).sum.toNat (Q1q t.neg t.exp t.ws*Q96 X (t.es.take 0)):=by
    rw[List.take_zero,Qbw]
    refine ⟨t.neg,t.exp,aw,lw,cw,t.ws,hN9,hl9,hw.step hb89,by grind,?_,?_,?_⟩
    ·simp;omega
    ·simp;omega
    ·simp;omega
   have HR:=Xh11 hS hg4 hb he ht hb89 hv0 hE0 hE8 hel hln
   clear hS hg4 hb he ht hb89 hv0 hE0 hE8 hat hX8 hb8 hs8 hN9 hb9 hl9 hX9 hkx hw hx1 hx2 he1 he2 hlw
   subst hW9
   subst hW8
   go_wp2_with fail
   go_loopw [33] (fun s33 wr=>Qwo wl wl.heap.size (wl.heap.size+1) (Q1q t.neg t.exp t.ws) X t.es s33 wr) (fun iv _=>le-(intOf iv).toNat)
   case atStart=>exact ⟨0,rfl,Nat.zero_le _,(Xo6 HR),(Xo5 HR)⟩
   case round=>
    obtain ⟨p,rfl,hp,hv,hbm⟩:=hrel
    rename World=>wm
    by_cases hpl:p<le
    ·have hpl':(p:Int)<(le:Int):=by omega
     have hpm':(p:Int)<(m:Int):=by have:=HLE.out;omega
     obtain ⟨z,hz⟩:∃z,t.es[p]?=some z:=⟨_,List.getElem?_eq_getElem (by rw[(Xo9 HR)];have:=HLE.out;omega)⟩
     obtain ⟨x,hx⟩:∃x,xs[p]?=some x:=⟨_,List.getElem?_eq_getElem (by have:=HLE.out;omega)⟩
     have hz0:=(Xo7 HR) z (List.mem_of_getElem? hz)
     obtain ⟨q,rfl⟩:∃q:Nat,z=(q:Int):=⟨z.toNat,by omega⟩
     have hsn:=Qea hz
     have hs1:=Qbx (Xo7 HR) p
     have hs2:=Qbx (Xo7 HR) (p+1)
     have hE8:=(Xo8 HR)
     have hq8:q<=8:=by omega
     have hkq:(t.es.take (p+1)).sum.toNat=(t.es.take p).sum.toNat+q:=by omega
     have hXp:X[p]?=some x.val:=by rw[<-(Xo7 H),List.getElem?_map,hx];rfl
     have hpn:=Qha hXp hz
     rw[Int.toNat_natCast] at hpn
     obtain ⟨K,hK⟩:∃K,(t.es.take p).sum.toNat=K:=⟨_,rfl⟩
     have hK8:K+q<=8:=by omega
     rw[hK] at hv hkq
     have hbw:=(Xo2 HR)
     have kz:=(((Xo3 HR)).step hbm).getz hz
     obtain ⟨bx,ox,hbd,hbx,hnc⟩:∃bx ox,b=some ⟨bx,ox,none⟩/\bx<w.heap.size/\Q97 w bx (ox+p*3) x:=by
      rcases (Xo2 H).2.2.2 with h0|⟨bx,ox,h1,h2,h3⟩
      ·rw[h0] at hx;simp at hx
      ·exact ⟨bx,ox,h1,h2,h3 p x hx⟩
     subst hbd
     have hxo:Q0h x.neg x.exp x.ws:=(Xo3 H) x (List.mem_of_getElem? hx)
     obtain ⟨D0,hD0⟩:∃D0,Q1q t.neg t.exp t.ws*Q96 X (t.es.take p)=D0:=⟨_,rfl⟩
     rw[hD0] at hv
     have hdn:Q1q t.neg t.exp t.ws*Q96 X (t.es.take (p+1))=D0*pw x.val q:=by rw[hpn,<-hD0];grind
     have HM:=Xh7 hv hbm hnc hxo hkq hdn hbx
     clear hv hbm hnc hxo hkq hdn hbx hpn hXp hsn hs1 hs2 hE8 hz hx hz0 hK hD0 hbw
     go_wp2_with fail
     go_loopw [39] (fun s39 wr=>AtIn wm wl.heap.size (wl.heap.size+1) K q D0 x.val s39 wr) (fun iv _=>q-(intOf iv).toNat)
     case atStart=>exact ⟨0,rfl,Nat.zero_le _,by rw[Nat.add_zero,pw,show D0*1=D0 by grind];exact (Xo0 HM),Below.refl _ _⟩
     case round=>
      obtain ⟨j,rfl,hj,hv,hbi⟩:=hrel
      by_cases hjq:j<q
      ·have hjq':(j:Int)<(q:Int):=by omega
       obtain ⟨nv9,ev9,av9,lv9,cv9,L9,hN9,hl9,hW9,hD9,hL9,hlo9,hhi9⟩:=hv
       have hbwr:Below w.heap.size w wr:=Below.next0 (Xo2 HR) ((Xo1 HM).trans hbi)
       obtain ⟨ax,lx,cx,x0,x1,x2,hwx⟩:=(Xo2 HM).step hbwr (Xe6 HM)
       have hbx:=Nat.lt_of_lt_of_le (Xe6 HM) hbwr.size
       obtain ⟨hlx,hex1,hex2⟩:=Q3d (Xo3 HM) hwx.low
       rw[hwx.len] at hlx
       have hszm:=((Xo1 HM).trans hbi).size
       have HI:=Xh5 hN9 hW9 hD9 hwx hbi
       have HX:=Xh3 x0 x1 x2
       clear hN9 hW9 hD9 hwx hbi hbwr x0 x1 x2
       go_upto_region 13 with fail
       refine Q1o (by kernel_rfl) 6 rfl (fun W=>Below wr.heap.size wr W) (fun _ _ h h'=>Below.next0 h h') (Q6k [.agg #[.bool nv9,.int .i64 ev9,.slice av9 lv9 cv9],.slice (some ⟨bx,ox,none⟩) m d,.int .i64 (p:Int),.pointer (some ⟨bx,ox+p*3,none⟩),.agg #[.bool x.neg,.int .i64 x.exp,.slice ax lx cx],undef] (Q5o [(5,fun u W=>∃a n c,u=.agg #[.bool (nv9 != x.neg),.int .i64 (ev9+x.exp),.slice a n c]/\WordsIn W a n c (dig (2^64) (val (2^64) L9*val (2^64) x.ws)))])) (Q0q (Q1c (Qsr (fun _ _ _ ⟨a,n,c,h1,h2⟩ hb=>⟨a,n,c,h1,h2.step hb⟩)))) (fun W'=>VSt W' (wl.heap.size+1) (K+(j+1)) (D0*pw x.val (j+1))/\Below wl.heap.size wm W') (by kernel_rfl) (by kernel_rfl) (by kernel_rfl) (by kernel_rfl) (Q08 wr) ?_ ?_ ?_
       ·skip
        refine ⟨fun A W hW hag hdep=>?_,?_⟩
        ·have e9:A.tmps[9]?.getD undef=.pointer (some ⟨wl.heap.size+1,0,none⟩):=Q03 (hag.keep (t:=9) (by kernel_rfl) rfl)
         refine Q01 rfl ?_
         have hN:=(Xo0 HI).step hW hl9
         refine Q02 (u:=.agg #[.bool nv9,.int .i64 ev9,.slice av9 lv9 cv9]) ?_ ((Q00 rfl).2 rfl)
         simp[go_sem,e9,hN.c0,hN.c1,hN.c2]
        refine ⟨fun A W hW hag hdep=>?_,?_⟩
        ·have e1:A.tmps[1]?.getD undef=.slice (some ⟨bx,ox,none⟩) m d:=Q03 (hag.keep (t:=1) (by kernel_rfl) rfl)
         refine Q01 rfl ?_
         refine Q02 (u:=.slice (some ⟨bx,ox,none⟩) m d) ?_ ((Q00 rfl).2 rfl)
         simp[go_sem,e1]
        refine ⟨fun A W hW hag hdep=>?_,?_⟩
        ·have e10:A.tmps[10]?.getD undef=.int .i64 (p:Int):=Q03 (hag.keep (t:=10) (by kernel_rfl) rfl)
         refine Q01 rfl ?_
         refine Q02 (u:=.int .i64 (p:Int)) ?_ ((Q00 rfl).2 rfl)
         simp[go_sem,e10]
        refine ⟨fun A W hW hag hdep=>?_,?_⟩
        ·have e42:A.tmps[42]?.getD undef=.slice (some ⟨bx,ox,none⟩) m d:=Q03 ((Q00 rfl).1 (hdep 1 (by decide)))
         have e43:A.tmps[43]?.getD undef=.int .i64 (p:Int):=Q03 ((Q00 rfl).1 (hdep 2 (by decide)))
         refine Q01 rfl ?_
         refine Q02 (u:=.pointer (some ⟨bx,ox+p*3,none⟩)) ?_ ((Q00 rfl).2 rfl)
         simp[go_sem,e42,e43,hpm']
        refine ⟨fun A W hW hag hdep=>?_,?_⟩
        ·have e44:A.tmps[44]?.getD undef=.pointer (some ⟨bx,ox+p*3,none⟩):=Q03 ((Q00 rfl).1 (hdep 3 (by decide)))
         refine Q01 rfl ?_
         have y0:=(hW.cell (p:=⟨bx,ox+p*3,none⟩) hbx).trans (Xo0 HX)
         have y1:=(hW.cell (p:=⟨bx,ox+p*3+1,none⟩) hbx).trans (Xo1 HX)
         have y2:=(hW.cell (p:=⟨bx,ox+p*3+2,none⟩) hbx).trans (Xe2 HX)
         refine Q02 (u:=.agg #[.bool x.neg,.int .i64 x.exp,.slice ax lx cx]) ?_ ((Q00 rfl).2 rfl)
         simp[go_sem,e44,y0,y1,y2]
        refine ⟨fun A W hW hag hdep=>?_,?_⟩
        ·have e41:A.tmps[41]?.getD undef=.agg #[.bool nv9,.int .i64 ev9,.slice av9 lv9 cv9]:=Q03 ((Q00 rfl).1 (hdep 0 (by decide)))
         have e45:A.tmps[45]?.getD undef=.agg #[.bool x.neg,.int .i64 x.exp,.slice ax lx cx]:=Q03 ((Q00 rfl).1 (hdep 4 (by decide)))
         refine Q01 rfl ?_
         refine Q0j (f:=54) (args:= #[.agg #[.bool nv9,.int .i64 ev9,.slice av9 lv9 cv9],.agg #[.bool x.neg,.int .i64 x.exp,.slice ax lx cx]]) (by simp[go_sem,e41,e45]) ((Q9b nv9 ev9 av9 lv9 cv9 L9 x.neg x.exp ax lx cx x.ws W ((Xo1 HI).step hW) ((Xo3 HI).step hW) (by omega) (by omega) (by omega) (by omega) (by omega) (by omega)).mono ?_)
         rintro r w5 ⟨a5,n5,c5,rfl,hw5,hb5⟩
         exact ⟨_,rfl,hb5,(Q06 rfl).2 ⟨a5,n5,c5,rfl,hw5⟩⟩
        exact trivial
       ·intro A W hW hag hdep
        obtain ⟨a5,n5,c5,hv5,hw5⟩:=(Q06 rfl).1 (hdep 5 (by decide))
        have e46:=Q03 hv5
        have e9:A.tmps[9]?.getD undef=.pointer (some ⟨wl.heap.size+1,0,none⟩):=Q03 (hag.keep (t:=9) (by kernel_rfl) rfl)
        have hN:=(Xo0 HI).step hW hl9
        have k0:=hN.c0
        have f0:=hN.f0
        have f1:=hN.f1
        have f2:=hN.f2
        have d1:=hN.d1 (.bool (nv9 != x.neg))
        have d2:=hN.d2 (.bool (nv9 != x.neg)) (.int .i64 (ev9+x.exp))
        have h5l:=Qt1 (Xo1 HI).low (Xo3 HI).low
        have h5a:=hw5.len
        have h5b:=(Xo1 HI).len
        have h5c:=(Xo3 HI).len
        refine Q2f (w':=((W.setCell ⟨wl.heap.size+1,0,none⟩ (.bool (nv9 != x.neg))).setCell ⟨wl.heap.size+1,1,none⟩ (.int .i64 (ev9+x.exp))).setCell ⟨wl.heap.size+1,2,none⟩ (.slice a5 n5 c5)) ?_ ?_
        ·simp[go_sem,e9,e46,k0,f0,f1,f2,d1,d2]
        ·refine ⟨⟨nv9 != x.neg,ev9+x.exp,a5,n5,c5,_,hN.store _ _ _,by rw[World.size_setCell,World.size_setCell,World.size_setCell];exact Nat.lt_of_lt_of_le hl9 hW.size,hw5.set3 hN _ _ _,?_,by omega,by omega,by omega⟩,Q04.below ((Xe4 HI).trans (hW.mono (by omega))) (by omega) _ _ _⟩
         rw[Qhb,(Xo2 HI),pw,Q9x.val]
         grind
       intro vs W1 hfin
       simp only[Q10,Act.put,List.setIfInBounds_toArray,List.set_cons_zero,List.set_cons_succ]
       have HF:=Lib.hid hfin
       clear hfin
       go_wp2_with fail
       exact ⟨⟨j+1,by simp,by omega,(Xo0 HF),(Xe1 HF)⟩,by simp only[intOf];omega⟩
      ·have hjq':¬((j:Int)<(q:Int)):=by omega
       obtain rfl:j=q:=by omega
       have HV:=Xh2 hv hbi
       clear hv hbi
       go_wp2_with fail
       refine ⟨⟨p+1,by simp,by rw[(Xo9 HR)];have:=HLE.out;omega,?_,(Xo1 HM).trans (Xe1 HV)⟩,by simp only[intOf];omega⟩
       rw[(Xo4 HM),(Xo5 HM)]
       exact (Xo0 HV)
    ·have hpl':¬((p:Int)<(le:Int)):=by omega
     obtain ⟨nv,ev,av,lv,cv,Lv,hN9,hl9,hWv,hDv,hlv,hlo,hhi⟩:=hv
     obtain ⟨ns,es,asl,ls,cs,Ls,hN6,hl6,hWs,hDs,hlos,his,hts⟩:=(Xo0 HR)
     have hs1:=Qbx (Xo7 HR) p
     have hE8:=(Xo8 HR)
     have hts2:t.es.take p=t.es:=List.take_of_length_le (by rw[(Xo9 HR)];have:=HLE.out;omega)
     rw[hts2] at hDv
     have hN6m:=hN6.step hbm hl6
     have hl6m:=Nat.lt_of_lt_of_le hl6 hbm.size
     have hadd:=Q9c ns es asl ls cs Ls nv ev av lv cv Lv wm (hWs.step hbm) hWv (by omega) (by omega) (by omega) (by omega) (by omega) (by omega) (626688+64*(i:Int)) (-589824) 589824 hts (by omega) hlos (by omega) his (by omega)
     have hDn:Q1q ns es Ls+Q1q nv ev Lv=Q21 X ((ms.take (i+1)).map Q05.term):=by
      rw[Q5r (Xo4 HR),List.map_append,Q8e,hDs,hDv]
      simp only[List.map_cons,List.map_nil,Q21,Q05.term]
      grind
     rw[hDn] at hadd
     have s0:=hN6m.c0
     have s1:=hN6m.c1
     have s2:=hN6m.c2
     have v0:=hN9.c0
     have v1:=hN9.c1
     have v2:=hN9.c2
     have HA:=Xh5 hN6m hl6m hbm hadd hl6
     clear hN6m hl6m hbm hadd hN6 hl6 hWs hDs hlos his hts hN9 hWv hDv hlv hlo hhi hs1 hts2 hDn
     go_wp2_with (go_at_call 55
                  refine (Xo3 HA).mono ?_
                  rintro r w3 ⟨n3,e3,a3,l3,c3,L3,rfl,hw3,hD3,hlo3,hhi3,ht3,hb3⟩
                  have hN3:=(Xo0 HA).step hb3 (Xo1 HA)
                  have k0:=hN3.c0
                  have f0:=hN3.f0
                  have f1:=hN3.f1
                  have f2:=hN3.f2
                  have d1:=hN3.d1 (.bool n3)
                  have d2:=hN3.d2 (.bool n3) (.int .i64 e3)
                  have H3:=Xh7 hN3 hw3 hD3 hlo3 hhi3 ht3 hb3
                  clear hN3 hw3 hD3 hlo3 hhi3 ht3 hb3)
     obtain ⟨hN3,hw3,hD3,hlo3,hhi3,ht3,hb3⟩:=H3.out
     have hb4m:=((Xo2 HR)).trans (((Xo2 HA).mono (Xo2 HR).size).trans (hb3.mono (by have:=(Xo2 HR).size;have:=(Xo2 HA).size;omega)))
     have hg4w:w.heap.size<wl.heap.size:=by have:=(Xe4 HA);omega
     have hg43:=(((Xo1 HR).step (Xo2 HA) hg4w).step hb3 (Nat.lt_of_lt_of_le hg4w (Xo2 HA).size)).far3 (g:=w2.heap.size) (by omega) (.bool n3) (.int .i64 e3) (.slice a3 l3 c3)
     refine ⟨⟨i+1,by simp,by omega,⟨n3,e3,a3,l3,c3,L3,hN3.store _ _ _,by rw[World.size_setCell,World.size_setCell,World.size_setCell];exact Nat.lt_of_lt_of_le (Xo1 HA) hb3.size,hw3.set3 hN3 _ _ _,hD3,hlo3,hhi3,by omega⟩,hg43,Q04.below hb4m (by omega) _ _ _⟩,by simp only[intOf];omega⟩
  ·have hlt':¬((i:Int)<(n:Int)):=by omega
   obtain ⟨ns,es,asl,ls,cs,Ls,hN6,hl6,hWs,hDs,hlos,his,hts⟩:=hS
   rw[List.take_of_length_le (by omega),(Xe8 H)] at hDs
   have hmk:=Q3r ns asl ls cs Ls es wl hWs ((Xo4 H).step hb) (by omega) (by omega) (by omega)
   have s0:=hN6.c0
   have s1:=hN6.c1
   have s2:=hN6.c2
   have hg4w:w.heap.size<wl.heap.size:=by omega
   have HA:=Xh5 hmk hg4 hb hDs hg4w
   clear hmk hg4 hb hDs hN6 hWs hlos his hts hg4w
   go_wp2_with (go_at_call 47
                refine (Xo0 HA).mono ?_
                rintro r w3 ⟨n3,e3,a3,l3,c3,L3,er,rfl,hmo,hni,hb3⟩
                have hN3:=(Xo1 HA).step hb3 (Xe4 HA)
                have k0:=hN3.c0
                have f0:=hN3.f0
                have f1:=hN3.f1
                have f2:=hN3.f2
                have d1:=hN3.d1 (.bool n3)
                have d2:=hN3.d2 (.bool n3) (.int .i64 e3)
                have H3:=Xh4 hN3 hmo hni hb3
                clear hN3 hmo hni hb3)
   obtain ⟨hN3,hmo,hni,hb3⟩:=H3.out
   have hS4:=hN3.store (.bool n3) (.int .i64 e3) (.slice a3 l3 c3)
   have q0:=hS4.c0
   have q1:=hS4.c1
   have q2:=hS4.c2
   have hfit:Qci F n3 e3 L3 er:=by rw[<-(Xo3 HA)];exact Q7o hmo
   have hbz:=Q04.below (Below.next0 (Xo2 HA) hb3) (Nat.le_refl _) (.bool n3) (.int .i64 e3) (.slice a3 l3 c3)
   have hwz:=hni.toWordsIn.set3 hN3 (.bool n3) (.int .i64 e3) (.slice a3 l3 c3)
   exact ⟨rfl,.tuple #[.agg #[.bool n3,.int .i64 e3,.slice a3 l3 c3],.int .i64 er],by simp[results,go_sem,q0,q1,q2],n3,e3,a3,l3,c3,L3,er,rfl,hfit,Qd8 hmo,hwz,hbz⟩
end Go.Proofs.YtdilmfakkppgpaaGreatDoor
