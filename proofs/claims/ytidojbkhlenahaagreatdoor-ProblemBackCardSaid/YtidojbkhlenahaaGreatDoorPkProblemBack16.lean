/- Part 16. No condition. -/
import Derived.Test.YtidojbkhlenahaaGreatDoorPkProblemBack15
set_option maxRecDepth 100000
set_option maxHeartbeats 16000000
namespace Go.Proofs.YtidojbkhlenahaaGreatDoor
open Go.RowKit WordsM
def Qzc (b i:Nat) (n:Nat) (w:World) (e:Ending) (w':World):Prop:=(∃x:Nat,x<n/\e=.returned (.int .i64 (x:Int)))/\Q42 w' b (i+1)/\Q0e (·=b) w w'
theorem Qdu (b i n:Nat) (w:World) (h:Q42 w b i) (hi:i<=1000000) (h0:0<n) (hn:n<=1000000):
 Calls Tryz.prog 77 #[.pointer (some ⟨b,0,none⟩),.int .i64 (n:Int)] w (Qzc b i n w):=by
 have hc:=Q4o b i w h hi;have HC:=Ub hc;clear hc h
 go_enter Tryz.func77,Tryz.ntmps77
 go_wp2_with (refine HC.out.mono ?_;rintro e w1 ⟨⟨x,hx,rfl⟩,hd,ht⟩;(have HD:=Xh2 hd ht);clear hd ht)
 go_ret;have hm:(x:Int)%(n:Int)=((x%n:Nat):Int):=by norm_cast
 have E0:x%n<n:=TK _ h0;refine ⟨⟨x%n,E0,?_⟩,HD.out⟩
 show Ending.returned (.int .i64 (wrap64 ((x:Int)%(n:Int))))=_
 rw[hm]
 congr 2
 unfold wrap64;omega
theorem Qzd (b i:Nat) (w:World) (h:Q42 w b i) (hi:i<=1000000):
 Calls Tryz.prog 47 #[.pointer (some ⟨b,0,none⟩)] w fun e w'=>(∃n:Nat,1<=n/\n<=4/\e=.returned (.int .i64 (n:Int)))/\Q42 w' b (i+1)/\Q0e (·=b) w w':=by
 have hc:=Qdu b i 4 w h hi (by decide) (by decide);have HC:=Ub hc;clear hc h
 go_enter Tryz.func47,Tryz.ntmps47
 go_wp2_with (refine HC.out.mono ?_;rintro e w1 ⟨⟨x,hx,rfl⟩,hd,ht⟩;(have HD:=Xh2 hd ht);clear hd ht)
 go_ret;exact ⟨⟨1+x,by omega,by omega,by rw[show (1:Int)+(x:Int)=((1+x:Nat):Int) by omega];rfl⟩,HD.out⟩
theorem Qu2 (b i:Nat) (w:World) (h:Q42 w b i) (hi:i<=100000):
 Calls Tryz.prog 170 #[.pointer (some ⟨b,0,none⟩)] w fun e w'=>Qt6 e w'/\Q42 w' b (i+1)/\Q0e (·=b) w w':=by
 have Z2:∀o,Bw w (w.alloc o):=fun o=>Ba;have I3:=Q0h w (.cells #[.bool false,.int .i64 0,.slice none 0 0] 26);have O9:=Q03.new w (.bool false) (.int .i64 0) (.slice none 0 0) 26;have U4:=h.lt;have K5:=Q4o b i (w.alloc (.cells #[.bool false,.int .i64 0,.slice none 0 0] 26)) (h.call (Z2 _)) (by omega);have HM:=Xh2 K5 O9;clear K5 O9 h
 go_enter Tryz.func170,Tryz.ntmps170
 go_upto_region 1 with fail
 go_cut [3] (fun v wx=>∃x:Nat,x<18446744073709551616/\v=.int .u64 (x:Int)/\Q42 wx b (i+1)/\Q0e (·=b) (w.alloc (.cells #[.bool false,.int .i64 0,.slice none 0 0] 26)) wx)
 case first=>
  go_wp2_with (refine (Xo0 HM).mono ?_;rintro e w1 ⟨⟨x,hx,rfl⟩,C3,Q2⟩;have Zn:=Xh2 C3 Q2;clear C3 Q2)
  go_meet;exact ⟨x,hx,rfl,(Xo0 Zn),(Xe1 Zn)⟩
 obtain ⟨x,hx,rfl,C3,Q2⟩:=hcut;have Zn:=Xh2 C3 Q2;clear C3 Q2;obtain ⟨m,hm⟩:∃m,x%2=m:=⟨_,rfl⟩;have B6:bits .and .u64 (x:Int) 1=(m:Int):=by rw[show (1:Int)=((1:Nat):Int) from rfl,u64_and_nat x 1 hx (by decide),nat_mask1,hm]
 obtain ⟨neg,x5⟩:∃neg,((m:Int)==1)=neg:=⟨_,rfl⟩;obtain ⟨e0,he0,XB,Q6⟩:∃e0:Int,(x:Int) / 128%9=e0/\0<=e0/\e0<=8:=⟨_,rfl,by omega,by omega⟩;obtain ⟨y,hy⟩:∃y,x / 2=y:=⟨_,rfl⟩;have hyI:(x:Int) / 2=(y:Int):=by omega
 obtain ⟨p,hp,R7⟩:=Qys y 63 (by omega) (by decide);have Yy:bits .and .u64 (y:Int) 63=(p:Int):=hp;clear hy hp hm;have hNc:=(Xe1 HM).turn (Xe1 Zn) I3 (by omega);have hlc:=Uc I3 (Xe1 Zn).size;have htc:Q0e (·=b) w wc:=(Q0e.of_below (Z2 _) _).trans0 (Xe1 Zn);have HN:=Xh3 hNc hlc htc;clear hNc hlc htc
 go_wp2_with (refine (Qm2 neg (some ⟨wc.heap.size,0,none⟩) 1 1 [p] (e0-6) (wc.alloc (.cells #[.int .u64 (p:Int)] 83)) (Qdi wc p (R7) 83) (by decide) (by omega) (by omega)).mono ?_;rintro e w2 ⟨⟨neg2,e2,a2,n2,c2,L,rfl,Z1,hW⟩,D0⟩;have K2:=Below.next0 ((Ug wc.heap.size wc).alloc (Ue _) (.cells #[.int .u64 (p:Int)] 83)) D0;have A1:=(Xo0 HN).step K2 (Xo1 HN);obtain ⟨N4,O1,E1,m4,Y3,A4⟩:=A1.cf;have V6:=A1.d1 (.bool neg2);have I5:=A1.d2 (.bool neg2) (.int .i64 e2);have F1:=Xh5 A1 ((Xe2 HN).trans0 (Q0e.of_below K2 _)) hW Z1 K2;clear A1 K2 hW Z1 D0)
 have JN:=(Xo0 F1).store (.bool neg2) (.int .i64 e2) (.slice a2 n2 c2);obtain ⟨k0,k1,k2⟩:=JN.cc;have XM:=(((Xo1 F1).newSet (p:=⟨w.heap.size,0,none⟩) (Ue _) (.bool neg2)).newSet (p:=⟨w.heap.size,1,none⟩) (Ue _) (.int .i64 e2)).newSet (p:=⟨w.heap.size,2,none⟩) (Ue _) (.slice a2 n2 c2);have ht7:Q0e (fun k=>k=w.heap.size) wc (((w2.setCell ⟨w.heap.size,0,none⟩ (.bool neg2)).setCell ⟨w.heap.size,1,none⟩ (.int .i64 e2)).setCell ⟨w.heap.size,2,none⟩ (.slice a2 n2 c2)):=(((Q0e.of_below (Xe4 F1) _).trans0 (Q0e.setCell (fun k=>k=w.heap.size) w2 (p:=⟨w.heap.size,0,none⟩) rfl (.bool neg2))).trans0 (Q0e.setCell (fun k=>k=w.heap.size) _ (p:=⟨w.heap.size,1,none⟩) rfl (.int .i64 e2))).trans0 (Q0e.setCell (fun k=>k=w.heap.size) _ (p:=⟨w.heap.size,2,none⟩) rfl (.slice a2 n2 c2));have Qb:=(Xo0 Zn).turn ht7 (fun k hk=>by omega);have P7:=(Xo2 F1);have QS:WordsIn _ a2 n2 c2 L:=⟨P7.len,P7.cap,P7.most,P7.low,(P7.rd.store3 (Xo0 F1) (fun _=>by simp[nv]) (fun _=>by simp[nv]) (fun _=>by simp[nv]) (.bool neg2) (.int .i64 e2) (.slice a2 n2 c2)).more (Q1i _ _ _ _ _)⟩;clear JN N4 O1 E1 m4 Y3 A4 V6 I5 P7 ht7;generalize World.setCell _ _ _=W5 at k0 k1 k2 XM QS Qb⊢;exact ⟨rfl,.agg #[.bool neg2,.int .i64 e2,.slice a2 n2 c2],by simp[results,go_sem,k0,k1,k2],⟨neg2,e2,a2,n2,c2,L,rfl,(Xo3 F1),QS⟩,Qb,XM⟩
structure Q3y (W:World) (g:Nat) (E:List Int):Prop where
 cell:∀j x,E[j]?=some x->W.cell? ⟨g,j,none⟩=some (.int .i64 x)
 free:∀j,W.frozen? ⟨g,j,none⟩=false
 lt:g<W.heap.size
theorem Q3y.new (W:World) (n:Nat):Q3y (W.alloc (.cells (Array.replicate n (nv .i64 0)) 3)) W.heap.size (List.replicate n 0):=by
 refine ⟨fun j x hx=>?_,fun j=>TC _ _ _ _ _ (Um _ _),Q0h _ _⟩;rw[Uv _ _ _ _ _ _ (Um _ _)];rw[TD] at hx
 split at hx
 ·rename_i h;injection hx with hx;subst hx;simp[h,nv]
 ·cases hx
theorem Q3y.turn {fp:Nat->Prop} {w w':World} {g:Nat} {E:List Int} (h:Q3y w g E) (ht:Q0e fp w w') (hn:¬fp g):Q3y w' g E:=
 ⟨fun j x hx=>(ht.cell (p:=⟨g,j,none⟩) h.lt hn).trans (h.cell j x hx),fun j=>(ht.frozen (p:=⟨g,j,none⟩) h.lt hn).trans (h.free j),Uc h.lt ht.size⟩
theorem Q3y.set {w:World} {g r:Nat} {E:List Int} {y:Int} (h:Q3y w g E) (hy:E[r]?=some y) (z:Int):Q3y (w.setCell ⟨g,r,none⟩ (.int .i64 z)) g (E.set r z):=by
 refine ⟨fun j x hx=>?_,fun j=>(Uo _ _ _ _).trans (h.free j),by rw[UT];exact h.lt⟩
 by_cases e:r=j
 ·subst e;rw[TG (Ul.1 hy).1] at hx;injection hx with hx;subst hx;exact UE _ _ _ (by rw[h.cell r y hy];rfl)
 ·rw[Te e] at hx;exact (Ud _ _ _ _ (by simp;try omega)).trans (h.cell j x hx)
theorem Qjt:∀{E:List Int} {r:Nat} {y:Int},E[r]?=some y->(E.set r (y+1)).sum=E.sum+1
 |[],r,y,h=>by simp at h
 |x::t,0,y,h=>by
  simp only[UD,Uj] at h;subst h;simp only[UI,Xax];omega
 |x::t,r+1,y,h=>by
  simp only[UF,Xax];rw[Qjt (by simpa using h)];omega
theorem Qa3:∀{E:List Int} {r:Nat} {y:Int},(∀x∈E,0<=x)->E[r]?=some y->y<=E.sum
 |[],r,y,_,h=>by simp at h
 |x::t,0,y,h0,h=>by
  simp only[UD,Uj] at h;subst h;have:0<=t.sum:=sum0 fun z hz=>h0 z (TH _ hz);rw[Xax];omega
 |x::t,r+1,y,h0,h=>by
  have:=Qa3 (E:=t) (r:=r) (fun z hz=>h0 z (TH _ hz)) (by simpa using h);have:=h0 x (TO ..);rw[Xax];omega
where
 sum0:∀{E:List Int},(∀x∈E,0<=x)->0<=E.sum
 |[],_=>by simp
 |x::t,h=>by
  have:=sum0 (E:=t) fun z hz=>h z (TH _ hz);have:=h x (TO ..);rw[Xax];omega
def Qoc (w:World) (b i n deg:Nat) (s8:Value) (wr:World):Prop:=∃(kk q:Nat) (E:List Int),s8=.int .i64 (kk:Int)/\E.length=n/\(∀x∈E,0<=x)/\E.sum+kk<=deg/\Q3y wr w.heap.size E/\Q42 wr b q/\q+kk<=i+1+deg/\Q0e (·=b) w wr
theorem Qqj {w w2:World} {b i n deg kk q r:Nat} {E:List Int} {y:Int} (G3:E.length=n) (h0:∀x∈E,0<=x) (hs:E.sum+(kk+1:Nat)<=deg) (hr:Q3y w2 w.heap.size E) (hd:Q42 w2 b q) (hq:q+kk<=i+1+deg) (ht:Q0e (·=b) w w2) (hy:E[r]?=some y) (hb:b<w.heap.size):
 Qoc w b i n deg (.int .i64 (kk:Int)) (w2.setCell ⟨w.heap.size,r,none⟩ (.int .i64 (y+1))):=by
 refine ⟨kk,q,E.set r (y+1),rfl,by rw[Tk];exact G3,fun x hx=>?_,by rw[Qjt hy];omega,hr.set hy _,?_,hq,ht.newSet (p:=⟨w.heap.size,r,none⟩) (Ue _) _⟩
 ·rcases Xap hx with h|rfl
  ·exact h0 x h
  ·have:=h0 y (Uf hy);omega
 ·exact hd.turn (Q0e.setCell (fun k=>k=w.heap.size) w2 (p:=⟨w.heap.size,r,none⟩) rfl _) fun k hk=>by omega
theorem Qqk (b i n deg:Nat) (w:World) (h:Q42 w b i) (hi:i<=100000) (h1:1<=n) (hn:n<=4) (hd:deg<=8):
 Calls Tryz.prog 171 #[.pointer (some ⟨b,0,none⟩),.int .i64 (n:Int),.int .i64 (deg:Int)] w fun e w'=>(∃g E q,e=.returned (.slice (some ⟨g,0,none⟩) n n)/\w.heap.size<=g/\g<w'.heap.size/\Q0g w' (some ⟨g,0,none⟩) n n E/\Q0x n E/\Q42 w' b q/\q<=i+1+deg)/\Q0e (·=b) w w':=by
 have C4:=Xa8 (P:=Tryz.prog) 96 3 (.int .i64 0) 8 Tryz.underlying96 Q9z rfl .i64 .i64 n (by omega) (by omega);rw[Q22] at C4;have U4:=h.lt;have Z2:Bw w (w.alloc (.cells (Array.replicate n (nv .i64 0)) 3)):=Ba;have hc:Calls Tryz.prog 77 #[.pointer (some ⟨b,0,none⟩),.int .i64 ((deg:Int)+1)] (w.alloc (.cells (Array.replicate n (nv .i64 0)) 3)) (Qzc b i (deg+1) (w.alloc (.cells (Array.replicate n (nv .i64 0)) 3))):=by
  have:=Qdu b i (deg+1) _ (h.call Z2) (by omega) (by omega) (by omega);rwa[show ((deg+1:Nat):Int)=(deg:Int)+1 from rfl] at this
 have HC:=Xh2 hc Z2;clear hc Z2 h
 go_enter Tryz.func171,Tryz.ntmps171
 go_wp2_with (go_at_call 77;refine (Xo0 HC).mono ?_;rintro e w1 ⟨⟨x,hx,rfl⟩,C3,Q2⟩;(have HD:=Xh2 C3 Q2);clear C3 Q2)
 go_loopw [8] (fun s8 wr=>Qoc w b i n deg s8 wr) (fun iv _=>(intOf iv).toNat)
 case atStart=>exact ⟨x,i+1,List.replicate n 0,rfl,by simp,fun y hy=>by rw[TM hy];decide,by simp;omega,(Q3y.new w n).turn (Xe1 HD) (by omega),(Xo0 HD),by omega,(Q0e.of_below (Xe1 HC) _).trans0 (Xe1 HD)⟩
 case round=>
  obtain ⟨kk,q,E,rfl,G3,h0,hs,I0,F8,hq,ht⟩:=hrel
  by_cases hk:0<kk
  ·have XI:(0:Int)<(kk:Int):=(by omega);have hsum0:0<=E.sum:=Qa3.sum0 h0;have Kn:=Qdu b q n wr F8 (by omega) (by omega) (by omega);have HS:=Xh6 G3 h0 hs I0 hq ht;clear G3 h0 hs I0 F8 hq ht
   go_wp2_with (go_at_call 77
                refine Kn.mono ?_;rintro e w2 ⟨⟨r,hr,rfl⟩,V2,M1⟩;have hrI:(r:Int)<(n:Int):=(by omega);obtain ⟨y,hy⟩:∃y,E[r]?=some y:=⟨_,Ua (by rw[(Xo0 HS)];exact hr)⟩;have Qy:=(Xo3 HS).turn M1 (by omega);have c0:=Qy.cell r y hy;have z0:=Qy.free r;have Ql:0<=y:=(Xo1 HS) y (Uf hy);have hy8:y<=8:=by
                 have:=Qa3 (Xo1 HS) hy;have:=(Xo2 HS);omega
                have H2:=Xh4 hy Qy V2 M1;clear hy Qy V2 M1 Kn)
   obtain ⟨k2,o5⟩:∃k2,kk=k2+1:=⟨kk-1,by omega⟩;have hs:=(Xo2 HS);have hq:=(Xo4 HS);have hw:wrap64 ((kk:Int)-1)=(k2:Int):=(by unfold wrap64;omega);have D6:(kk:Int)-1=(k2:Int):=by omega
   first
    |rw[hw]
    |rw[D6]
   exact ⟨Qqj (Xo0 HS) (Xo1 HS) (by omega) (Xo1 H2) (Xo2 H2) (by omega) ((Xe5 HS).trans0 (Xe3 H2)) (Xo0 H2) U4,by simp only[intOf];omega⟩
  ·have XI:¬(0:Int)<(kk:Int):=(by omega);have KA:Q0x n E:=⟨G3,h0,by omega⟩;have hii:Q0g wr (some ⟨w.heap.size,0,none⟩) n n E:=⟨G3,Ue _,by omega,(.new fun x hx=>by
    obtain ⟨j,hj,rfl⟩:=Xa2 hx;have h2:=Qa3 h0 (Ua hj);have h3:=h0 _ hx;omega),.inr ⟨w.heap.size,0,rfl,I0.lt,fun j x hx=>by rw[UH];exact I0.cell j x hx⟩⟩
   have HS:=Xh6 KA hii I0.lt F8 ht hq;clear G3 h0 hs I0 F8 hq ht KA hii
   go_wp2_with fail
   go_ret;exact ⟨⟨w.heap.size,rfl,Ue _,(Xo2 HS),E,(Xo1 HS),(Xo0 HS),q,(Xo3 HS),by have:=(Xe5 HS);omega⟩,(Xo4 HS)⟩
theorem Q42.nou {w:World} {b i:Nat} (h:Q42 w b i):∀(o x:Nat),w.cell? ⟨b,o,none⟩≠some (nv .u64 x):=by
 obtain ⟨a,n,c,ls,hh,_⟩:=h;intro o x e;rw[Uv _ _ _ _ _ _ hh] at e
 match o,e with
 |0,e=>simp[nv] at e
 |1,e=>simp[nv] at e
 |o+2,e=>simp at e
theorem Q6p.turn {B b n c:Nat} {w w':World} {a:OA} {all:List Q01} {xs:LV} (hD:Q6p B w a n c all xs) (VW:b<B) (hnu:∀(o x:Nat),w.cell? ⟨b,o,none⟩≠some (nv .u64 x)) (ht:Q0e (·=b) w w'):Q6p B w' a n c all xs:=by
 obtain ⟨h,hr,hN⟩:=hD;have Kv:∀x,a=some x->x.block≠b:=fun x hx e=>by have:=(h.lt hx).1;omega
 have hr':Q40 NoU w' B 98 4 a n c xs:=hr.keep fun x hx=>ht.block _ (h.lt hx).2 (Kv x hx);refine ⟨⟨⟨xs,hr'⟩,fun j m hm=>?_,h.len⟩,hr',hN⟩;obtain ⟨g,ha,aw,lw,cw,be,oe,le,ce,h0,h1,h2,h3,h4,h5,h6,h7⟩:=h.ent j m hm;have hg:=h.lt ha;have Vi:=Kv _ ha;have T9:j<n:=by rw[<-h.len];exact (Ul.1 hm).1
 obtain ⟨be',oe',le',ce',hx,hB⟩:=hN j T9;subst ha;have Vh:=hr.1.cell0 hx;rw[h3] at Vh;simp only[Uj,Value.slice.injEq,Addr.mk.injEq] at Vh;obtain ⟨⟨rfl,rfl,_⟩,rfl,rfl⟩:=Vh;have R0:∀o,w'.cell? ⟨g,o,none⟩=w.cell? ⟨g,o,none⟩:=fun o=>ht.cell (p:=⟨g,o,none⟩) hg.2 Vi;have QX:Qvb (·=b) aw m.ws:=by
  rcases h4.rd with e|⟨bb,oo,rfl,hb,hc⟩
  ·exact .inl e
  cases hL:m.ws with
  |nil=>exact .inl rfl
  |cons y r=>
   refine .inr fun x hx e=>?_;injection hx with hx;subst hx;have e:bb=b:=e;subst e;rw[hL] at hc;exact hnu _ _ (hc 0 y rfl)
 have hi5:Q0g w' (some ⟨be,oe,none⟩) le ce m.es:=by
  refine ⟨h5.len,h5.cap,h5.most,h5.rng,?_⟩;rcases h5.rd with h8|⟨b2,oo,e,hb,X3⟩
  ·exact .inl h8
  ·injection e with e;injection e with e1 e2;subst e1;subst e2;exact .inr ⟨be,oe,rfl,Uc hb ht.size,fun i x hx=>(ht.cell (p:=⟨be,oe+i,none⟩) hb (by show¬be=b;omega)).trans (X3 i x hx)⟩
 exact ⟨g,rfl,aw,lw,cw,be,oe,le,ce,(R0 _).trans h0,(R0 _).trans h1,(R0 _).trans h2,(R0 _).trans h3,h4.turn QX ht (fun _ h=>h),hi5,h6,Uc h7 ht.size⟩
theorem Q6p.push {B:Nat} {W:World} {a:OA} {n c:Nat} {all:List Q01} {xs:LV} (hD:Q6p B W a n c all xs) (hB:B<=W.heap.size) {m:Q01} {aw:OA} {lw cw g le ce:Nat} (hw:WordsIn W aw lw cw m.ws) (hE:Q0g W (some ⟨g,0,none⟩) le ce m.es) (hg:B<=g) (Xw:g<W.heap.size) (hga:∀x,a=some x->x.block≠g) (hn:n<=1000):
 ∃a' c' W' xs',(Builtin.append_ #[42,42] 42 #[.slice a n c,.slice (some ⟨W.heap.size,0,none⟩) 1 1]).run Tryz.prog (W.alloc (.cells #[.bool m.neg,.int .i64 m.exp,.slice aw lw cw,.slice (some ⟨g,0,none⟩) le ce] 98))=.ok (.slice a' (n+1) c') W'/\Q6p B W' a' (n+1) c' (all++[m]) xs'/\Below B W W':=by
 obtain ⟨i0,E2,P1,G1,K1⟩:=Q0p Q4q;have O4:Bw W (W.alloc (.cells #[.bool m.neg,.int .i64 m.exp,.slice aw lw cw,.slice (some ⟨g,0,none⟩) le ce] 98)):=Ba;have hD':=hD.step O4;obtain ⟨g6,c6,w6,x4,Y2,Q1,B5⟩:=Q0w (P:=Tryz.prog) NoU (W.alloc (.cells #[.bool m.neg,.int .i64 m.exp,.slice aw lw cw,.slice (some ⟨g,0,none⟩) le ce] 98)) 42 42 98 i0 _ 4 64 Q95 E2 P1 G1 K1 rfl Q8b B (Un hB O4.size) a n c xs hD'.row W.heap.size 1 1 [.bool m.neg,.int .i64 m.exp,.slice aw lw cw,.slice (some ⟨g,0,none⟩) le ce] rfl (Tx (cs:= #[.bool m.neg,.int .i64 m.exp,.slice aw lw cw,.slice (some ⟨g,0,none⟩) le ce]) (Um _ _)) (by simp[Value.oneCell']) (by intro u hu;simp at hu;rcases hu with rfl|rfl|rfl|rfl <;> exact fun _=>by simp[nv]) (by decide) (by omega) (by decide) (by decide);have D4:xs.length=n*4:=hD.row.1.len;refine ⟨_,c6,w6,_,x4,⟨hD'.st.push1 hD'.row Q1 B5 Y2 rfl (hw.step O4) (hE.step O4) (Uc Xw O4.size) hga,Y2,fun j hj=>?_⟩,?_⟩
 ·by_cases T9:j<n
  ·obtain ⟨be,oe,l2,c2,hx,hb⟩:=hD.new j T9;exact ⟨be,oe,l2,c2,by rw[Tj (by omega)];exact hx,hb⟩
  ·obtain rfl:j=n:=(by omega);exact ⟨g,0,le,ce,by rw[UY (by omega),D4,Xaw];rfl,hg⟩
 ·have VW:Below B W (W.alloc (.cells #[.bool m.neg,.int .i64 m.exp,.slice aw lw cw,.slice (some ⟨g,0,none⟩) le ce] 98)):=(Ug _ _).alloc hB _;exact VW.trans ⟨Q1.os,Q1.tape,Q1.output,Q1.size,fun z hz=>Q1.block z (Uc hz (Un hB O4.size)) (fun e=>by
   cases a with
   |none=>simp at e
   |some q=>simp only[Uz,Uj] at e;have:=(hD.st.lt rfl).1;omega)⟩
theorem Q0e.past {fp:Nat->Prop} {w W W':World} (h:Q0e fp w W) (hb:Below w.heap.size W W'):Q0e fp w W':=
 ⟨hb.os.trans h.os,hb.tape.trans h.tape,hb.output.trans h.output,Un h.size hb.size,fun k hk hn=>(hb.block k hk).trans (h.block k hk hn)⟩
def J0p (w:World) (b i n most:Nat) (s9 s10:Value) (wr:World):Prop:=∃(kk q N:Nat) (a:OA) (c:Nat) (ms:List Q01) (xs:LV),s9=.slice a N c/\s10=.int .i64 (kk:Int)/\N+kk<=most/\Q6p w.heap.size wr a N c ms xs/\(∀m∈ms,Q0x n m.es/\Q0a m.neg m.exp m.ws)/\Q42 wr b q/\q+kk*10<=i+1+most*10/\Q0e (·=b) w wr
theorem Qu3 (b i n most deg:Nat) (w:World) (h:Q42 w b i) (hi:i<=90000) (h1:1<=n) (hn:n<=4) (hm:most<=30) (hd:deg<=8):
 Calls Tryz.prog 122 #[.pointer (some ⟨b,0,none⟩),.int .i64 (n:Int),.int .i64 (most:Int),.int .i64 (deg:Int)] w fun e w'=>(∃a N c ms q,e=.returned (.slice a N c)/\N<=most/\Q08 w' a N c ms/\(∀m∈ms,Q0x n m.es/\Q0a m.neg m.exp m.ws)/\Q42 w' b q/\q<=i+1+most*10)/\Q0e (·=b) w w':=by
 have U4:=h.lt;have hc:Calls Tryz.prog 77 #[.pointer (some ⟨b,0,none⟩),.int .i64 ((most:Int)+1)] w (Qzc b i (most+1) w):=by
  have:=Qdu b i (most+1) _ h (by omega) (by omega) (by omega);rwa[show ((most+1:Nat):Int)=(most:Int)+1 from rfl] at this
 have HC:=Ub hc;clear hc h
 go_enter Tryz.func122,Tryz.ntmps122
 go_wp2_with (go_at_call 77;refine HC.out.mono ?_;rintro e w1 ⟨⟨x,hx,rfl⟩,C3,Q2⟩;(have HD:=Xh2 C3 Q2);clear C3 Q2)
 go_loopw [9,10] (fun s9 s10 wr=>J0p w b i n most s9 s10 wr) (fun _ iv _=>(intOf iv).toNat)
 case atStart=>exact ⟨x,i+1,0,none,0,[],[],rfl,rfl,by omega,Q6p.nil_ _ _,(fun m hm=>by cases hm),(Xo0 HD),by omega,(Xe1 HD)⟩
 case round=>
  obtain ⟨kk,q,N,a1,c1,ms,xs,rfl,rfl,hN,hM,P2,F8,hq,ht⟩:=hrel
  by_cases hk:0<kk
  ·have XI:(0:Int)<(kk:Int):=(by omega);have u7:=Qu2 b q wr F8 (by omega);have HS:=Xh6 hN hM P2 hq ht F8;clear hN hM P2 F8 hq ht
   go_wp2_with (first
    |(go_at_call 171
      refine Xi.mono ?_;rintro e w3 ⟨⟨g,E,q3,rfl,R6,J5,hE,hrE,JO,QR⟩,Z5⟩;have hD3:=(Xo0 H2).turn U4 ((Xo1 H2).nou) Z5;have XA:WordsIn w3 a2 n2 c2 L:=(Xo4 H2).turn (Xe5 H2) Z5 (fun _ h=>h);have KK:=(Xo2 H2).trans0 Z5;obtain ⟨a8,c8,w8,xs8,R3,JA,A5⟩:=hD3.push (KK.size) (m:=⟨neg2,e2,L,E⟩) XA hE (by have:=(Xo2 H2).size;omega) J5 (fun x hx e=>by have:=((Xo0 H2).st.lt hx).2;omega) (by have:=(Xo0 HS);omega);have H3:=Xh6 JA A5 hrE JO QR KK;clear hD3 XA KK JA A5 hrE JO QR hE Z5 Xi R6 J5)
    |(go_at_call 170
      refine u7.mono ?_;rintro e w2 ⟨⟨neg2,e2,a2,n2,c2,L,rfl,Z1,hW⟩,V2,M1⟩;have hM2:=(Xo1 HS).turn U4 ((Xe5 HS).nou) M1;have Xi:=Qqk b (q+1) n deg w2 V2 (by have:=(Xo3 HS);omega) h1 hn hd;have QX:Qvb (·=b) a2 L:=by
       rcases hW.rd with e|⟨bb,oo,rfl,hb,hc⟩
       ·exact .inl e
       cases hL:L with
       |nil=>exact .inl rfl
       |cons y r=>
        refine .inr fun x hx e=>?_;injection hx with hx;subst hx;have e:bb=b:=e;subst e;rw[hL] at hc;exact V2.nou _ _ (hc 0 y rfl)
      have H2:=Xh6 hM2 V2 ((Xo4 HS).trans0 M1) Z1 hW QX;clear hM2 V2 M1 Z1 hW QX u7)
    |(at_builtin;refine Q06 rfl (.tmp 19) (.tmp 27) 42 42 rfl _ _ rfl rfl _ _ R3 ?_))
   obtain ⟨k2,o5⟩:∃k2,kk=k2+1:=⟨kk-1,by omega⟩;have hN:=(Xo0 HS);have hq:=(Xo3 HS);have QR:=(Xo4 H3);have hw:wrap64 ((kk:Int)-1)=(k2:Int):=(by unfold wrap64;omega);have D6:(kk:Int)-1=(k2:Int):=by omega
   first
    |rw[hw]
    |rw[D6]
   refine ⟨⟨k2,q3,N+1,a8,c8,ms++[⟨neg2,e2,L,E⟩],xs8,rfl,rfl,by omega,(Xo0 H3),fun m hm=>?_,?_,by omega,(Xe5 H3).past (Xo1 H3)⟩,by simp only[intOf];omega⟩
   ·rcases Tq.1 hm with h0|h0
    ·exact (Xo2 HS) m h0
    ·rw[Ux] at h0;subst h0;exact ⟨(Xo2 H3),(Xo3 H2)⟩
   ·have A5:=(Xo1 H3);exact (Xo3 H3).turn (fp:=fun k=>w.heap.size<=k) ⟨A5.os,A5.tape,A5.output,A5.size,fun k _ hn=>A5.block k (TI hn)⟩ fun k hk=>by omega
  ·have XI:¬(0:Int)<(kk:Int):=(by omega);have N6:=hM.st.monos fun m hm=>(P2 m hm).2;have HS:=Xh6 hN N6 P2 hq ht F8;clear hN hM P2 F8 hq ht N6
   go_wp2_with fail
   go_ret;exact ⟨⟨a1,N,c1,rfl,by have:=(Xo0 HS);omega,ms,(Xo1 HS),(Xo2 HS),q,(Xe5 HS),by have:=(Xo3 HS);omega⟩,(Xo4 HS)⟩
def J1r (b i n most:Nat) (w:World) (e:Ending) (w':World):Prop:=(∃a N c ms q,e=.returned (.slice a N c)/\Q08 w' a N c ms/\Q1o n ms/\Qev w.heap.size w' a N/\Q42 w' b q/\q<=i+1+most*10)/\Q0e (·=b) w w'
theorem Qww {n:Nat} {ms:List Q01} (h1:1<=n) (hn:n<=4) (hP:Q4i n (ms.map Q01.term)) (ho:∀m∈ms,Q0a m.neg m.exp m.ws/\m.ws≠[]):Q1o n ms:=by
 obtain ⟨h2,h3,h4⟩:=hP;refine ⟨h1,hn,by rwa[UK] at h3,fun m hm=>⟨⟨(h4 _ (To.2 ⟨m,hm,rfl⟩)).2.2,(ho m hm).1⟩,(ho m hm).2⟩,?_⟩;unfold Qcp at h2;rw[Xbm] at h2;exact h2
theorem Q3d.deck {w1 w2:World} {x:Value} {er:Int} {n:Nat} {ts:List Q0b} (h:Q3d w1 (Q25 ts) (.returned (.tuple #[x,.int .i64 er])) w2) (ht:∀p∈ts,Q0x n p.2) (h1:1<=n) (hn:n<=4):∃a N c ms,x=.slice a N c/\Q08 w2 a N c ms/\Q1o n ms/\Qev w1.heap.size w2 a N:=by
 obtain ⟨_,h⟩:=h;cases hX:Q25 ts with
 |error e=>
  rw[hX] at h;simp at h;obtain ⟨rfl,_⟩:=h;exact ⟨none,0,0,[],rfl,⟨rfl,Ue _,by omega,.inl rfl⟩,⟨h1,hn,by decide,(fun m hm=>by cases hm),List.Pairwise.nil⟩,fun j hj=>absurd hj (TV _)⟩
 |ok P=>
  rw[hX] at h;obtain ⟨a,N,c,ms,he,hm,hP,ho,hN⟩:=h;simp at he;obtain ⟨rfl,_⟩:=he;exact ⟨a,N,c,ms,rfl,hm,Qww h1 hn (by rw[hP];exact Qp5 ht hX) ho,hN⟩
theorem Qju (b i n most deg:Nat) (w:World) (h:Q42 w b i) (hi:i<=90000) (h1:1<=n) (hn:n<=4) (hm:most<=30) (hd:deg<=8):
 Calls Tryz.prog 81 #[.pointer (some ⟨b,0,none⟩),.int .i64 (n:Int),.int .i64 (most:Int),.int .i64 (deg:Int)] w (J1r b i n most w):=by
 have hc:=Qu3 b i n most deg w h hi h1 hn hm hd
 go_enter Tryz.func81,Tryz.ntmps81
 go_wp2_with (first
  |(go_at_call 121
    refine C4.mono ?_;rintro r w2 WU;obtain ⟨x9,er9,rfl⟩:=WU.pair;obtain ⟨a9,N9,c9,ms9,rfl,Ke,hrv9,hnp9⟩:=WU.deck (n:=n) (Xe3 H1) h1 hn;have H2:=Xh5 Ke hrv9 (hnp9.more (Xo1 H1).size) ((Xo0 H1).call WU.1) ((Xo1 H1).trans0 (Q0e.of_below WU.1 _));clear WU Ke hrv9 hnp9 C4)
  |(go_at_call 122
    refine hc.mono ?_;rintro e w1 ⟨⟨a1,N1,c1,ms1,q1,rfl,J2,hms1,Yz,C3,o6⟩,Q2⟩;have C4:=Qjs a1 N1 c1 ms1 n w1 hms1 Yz h1 hn (by omega);have H1:=Ub (And.intro C3 (And.intro Q2 (And.intro o6 (show∀p∈ms1.map Q01.term,Q0x n p.2 from fun p hp=>by
     obtain ⟨m,hm,rfl⟩:=To.1 hp;exact (Yz m hm).1))))
    clear hms1 Yz C3 o6 Q2 J2 hc))
 go_ret;exact ⟨⟨a9,N9,c9,ms9,q1,rfl,(Xo0 H2),(Xo1 H2),(Xo2 H2),(Xo3 H2),(Xo2 H1)⟩,(Xe4 H2)⟩
open DecM
theorem Qu4 (sub:Nat->PR Ex) (opens:Bool) (L:LU) (most f p:Nat) (below:Bool) (acc:List (Bool × Ex)) (bad:Bool):Q4p bad p (Qbn sub opens L most (f+1) p below acc)=(match Q4p bad p (Q5c sub opens L most (L.length+1) p []) with
 | .error e=>.error e
 | .ok (x,q)=>if Q07 L (Q05 L q)=43 then Qbn sub opens L most f (Q05 L q+1) false (acc++[(below,x)])
   else if Q07 L (Q05 L q)=45 then Qbn sub opens L most f (Q05 L q+1) true (acc++[(below,x)])
   else .ok (.sum (acc++[(below,x)]),Q05 L q)):=by
 cases bad
 ·show Qbn sub opens L most (f+1) p below acc=_
  rw[Qbn];rfl
 ·rfl
theorem J0q {R:Nat} {w w':World} {g n c g2 c2:Nat} {acc:List (Bool × Ex)} {vs:LV} (h:Qbs R w w' (some ⟨g,0,none⟩) n c (some ⟨g2,0,none⟩) c2 acc vs) (h0:acc≠[]):Q2w (·<w.heap.size) w' (.sum acc) (.iface 178 (.agg #[.slice (some ⟨g,0,none⟩) n c,.slice (some ⟨g2,0,none⟩) n c2])):=by
 have F7:∀k,k<w.heap.size->fpX w.heap.size (some ⟨g,0,none⟩) (some ⟨g2,0,none⟩) k∨w'.heap.size<=k:=fun k hk=>.inl (.inl (Xa1 hk));have hg:=Q1k h.ra rfl;have J5:=Q1k h.rb rfl;have hc:=h.ra.cap;have E1:=h.rb.cap;have R6:w.heap.size+1<=g:=hg.1;have X9:w.heap.size+1<=g2:=J5.1;rw[Q2w];refine ⟨g,g2,c,c2,by rw[h.len],fun hk=>by omega,fun hk=>by omega,hg.2,J5.2,by rw[h.len];exact hc.1,hc.2,by rw[h.len];exact E1.1,E1.2,h0,(h.nodes.more F7).rows 0 (fun j v hv=>?_) fun j t ht=>?_⟩
 ·obtain ⟨g',e,_,_,R0⟩:=h.ra.at_ hv;injection e with e;injection e with e;subst e;rw[UH];exact R0
 ·have hv:(acc.map fun z=>Value.bool z.1)[j]?=some (.bool t):=by
   rw[UP] at ht⊢;cases hz:acc[j]? with
   |none=>rw[hz] at ht;cases ht
   |some z=>rw[hz] at ht;injection ht with ht;rw[<-ht];rfl
  obtain ⟨g',e,_,_,R0⟩:=h.rb.at_ hv;injection e with e;injection e with e;subst e;rw[UH];exact R0
def Qze (R:Nat) (s:ByteArray) (L:LU) (sub:Nat->PR Ex) (opens:Bool) (most:Nat) (d:Int) (w:World) (X:PR Ex) (bv:Value) (wx:World):Prop:=
 ∃(below:Bool) (p1:Nat) (bd:Bool),bv=.bool below/\Qbs R w wx none 0 0 none 0 [] []/\Q0q wx R s (p1:Int) (most:Int) d bd/\p1<=s.size/\X=Q4p bd p1 (Qbn sub opens L most (s.size+1) p1 below [])
theorem Q8m {w:World} {R:Nat} {s:ByteArray} {p most:Nat} {d:Int} {bad:Bool} (sub:Nat->PR Ex) (h:Q0q w R s (p:Int) (most:Int) d bad) (hp:p<=s.size) (hs:s.size<=1000000) (E9:0<=d) (hd:d<=16) (hT:∀W,Q0e (OnR R) w W->Q1s W) (Vg:decide (d<16)=true->∀p,p<=s.data.toList.length->Q6d s.data.toList p (sub p))
 (o7:d<16->∀(W:World) (q:Nat),Q0q W R s (q:Int) (most:Int) (d+1) false->q<=s.size->(∀W',Q0e (OnR R) W W'->Q1s W')->Calls Tryz.prog 130 #[.pointer (some ⟨R,0,none⟩)] W (Q6w R s (most:Int) (d+1) (sub q) W)):
 Calls Tryz.prog 130 #[.pointer (some ⟨R,0,none⟩)] w (Q6w R s (most:Int) d (Q4p bad p (Q7l sub (decide (d<16)) s.data.toList most p)) w):=by
 obtain ⟨i0,E2,P1,G1,K1⟩:=Q0p Qjb;obtain ⟨i1,hi1,Ql,x8,QG⟩:=Q0p Qto;obtain ⟨L,hL⟩:∃L,s.data.toList=L:=⟨_,rfl⟩;have t8:L.length=s.size:=by rw[<-hL];rfl
 rw[hL] at Vg;obtain ⟨X,hX⟩:∃X,Q4p bad p (Q7l sub (decide (d<16)) L most p)=X:=⟨_,rfl⟩;rw[hL,hX];have hR:=h.lt;have O4:Bw w (w.alloc (.cells #[.slice none 0 0,.slice none 0 0] 178)):=Ba;have P0:Qbs R w (w.alloc (.cells #[.slice none 0 0,.slice none 0 0] 178)) none 0 0 none 0 [] []:=
  ⟨Q0e.of_below O4 _,by rw[Uv _ _ _ _ _ _ (Um _ _)];rfl,by rw[Uv _ _ _ _ _ _ (Um _ _)];rfl,TC _ _ _ _ _ (Um _ _),TC _ _ _ _ _ (Um _ _),Row.nil_ _ _ _ _,Row.nil_ _ _ _ _,trivial,rfl⟩
 have D3:=Q3m (h.step O4) hp (by omega);obtain ⟨q,hq⟩:∃q,skS L p bad=q:=⟨_,rfl⟩;obtain ⟨c,hc⟩:∃c,nxB L q bad=c:=⟨_,rfl⟩;have JH:q<=s.size:=by
  rw[<-hq];unfold skS
  split
  ·exact hp
  ·rw[<-t8];exact Q3a (by omega)
 rw[hL,hq,hc] at D3;have G4:IntKind.i64.wrap ((q:Int)+1)=(q:Int)+1:=by rw[UN];omega
 have H:=Xh7 hL t8 hs hX hR P0 D3;have HS:=Xh5 E9 hd hT o7 Vg;have HP:=Xh4 hp JH hq hc;clear h hp hs hT o7 Vg hL t8 E9 hd hX hR P0 O4 D3 JH hq hc
 go_enter Tryz.func130,Tryz.ntmps130
 go_wp2_with fail
 go_step3
 go_upto_if 8 with (go_at_call_of 131 (Value.pointer (some ⟨R,0,none⟩));refine (Xe6 H).mono ?_;rintro r w1 ⟨rfl,I2,Q2⟩;have k1:=I2.c1;have g1:=I2.f1;have H1:=Xh2 I2 Q2;clear I2 Q2)
 go_cut [4] (fun bv wx=>Qze R s L sub (decide (d<16)) most d w X bv wx)
 case first=>
  have hXe:=(Xo3 H);have Wc:=(Xo5 H).step (Xo4 H) (Xe1 H1)
  by_cases h45:c=45
  ·subst h45;obtain ⟨rfl,VZ,hqb⟩:=Qz1 (s:=L) (p:=q) (bad:=bad) (by rw[(Xe3 HP)];decide);have hXn:X=Q4p false (q+1) (Qbn sub (decide (d<16)) L most (s.size+1) (q+1) true []):=by
    rw[<-hXe]
    show Q7l sub (decide (d<16)) L most p=Qbn sub (decide (d<16)) L most (s.size+1) (q+1) true []
    unfold Q7l;have WZ:Q05 L p=q:=(by have:=(Xo2 HP);simpa[skS] using this);rw[WZ,<-hqb,(Xe3 HP),Us rfl,(Xo1 H)]
   have n45:((((45:UInt8).toNat:Nat):Int)==45)=true:=(by decide);have o6:q+1<=s.size:=(by have:=(Xo1 H);omega);have H2:=Xh3 hXn Wc o6;clear hXn hXe Wc VZ hqb o6
   go_wp2_with fail
   go_meet;exact ⟨true,q+1,false,rfl,(Xo1 H2).step (Xo4 H) (Q1x w1 R 1 (.int .i64 ((q:Int)+1))),(Xo0 H1).setAt ((q:Int)+1),(Xe2 H2),(Xo0 H2)⟩
  ·have n45:((c.toNat:Int)==45)=false:=Qdp (k:=45) (by decide) h45;have hXn:X=Q4p bad q (Qbn sub (decide (d<16)) L most (s.size+1) q false []):=by
    rw[<-hXe];cases bad with
    |true=>
     have WZ:p=q:=(by have:=(Xo2 HP);simpa[skS] using this);rw[WZ];rfl
    |false=>
     show Q7l sub (decide (d<16)) L most p=Qbn sub (decide (d<16)) L most (s.size+1) q false []
     unfold Q7l;have WZ:Q05 L p=q:=(by have:=(Xo2 HP);simpa[skS] using this);have X3:Q07 L q=c:=(by have:=(Xe3 HP);simpa[nxB] using this);rw[WZ,X3,Up h45,(Xo1 H)]
   have H2:=Xh3 hXn Wc (Xo1 HP);clear hXn hXe Wc h45
   go_wp2_with fail
   go_meet;exact ⟨false,q,bad,congrArg Value.bool n45,(Xo1 H2),(Xo0 H1),(Xe2 H2),(Xo0 H2)⟩
 case rest=>
  have HC:=Ub hcut;obtain ⟨below,p1,bd1,rfl,_⟩:=hcut
  go_wp2_with fail
  go_step3
  go_wp2_with fail
  go_loopw [4] (fun bv wr=>∃(f p':Nat) (below:Bool) (bd:Bool) (a:OA) (n c:Nat) (a2:OA) (c2:Nat) (acc:List (Bool × Ex)) (vs:LV),bv=.bool below/\Qbs R w wr a n c a2 c2 acc vs/\Q0q wr R s (p':Int) (most:Int) d bd/\p'<=s.size/\s.size+1<=f+p'/\n<=p'/\X=Q4p bd p' (Qbn sub (decide (d<16)) L most f p' below acc)) (fun _ wr=>s.size-atOf wr R)
  case atStart=>
   obtain ⟨below',p1',bd1',e,h1,h2,h3,h4⟩:=HC.out;exact ⟨s.size+1,p1',below',bd1',none,0,0,none,0,[],[],e,h1,h2,h3,by omega,Ut _,h4⟩
  case round=>
   clear HC;obtain ⟨f,p',below,bd,a,n,c,a2,c2,acc,vs,rfl,P0,hr,T8,hf,hn,E6⟩:=hrel;obtain ⟨f,rfl⟩:∃f',f=f'+1:=⟨f-1,by omega⟩;rw[Qu4] at E6;have Vf:=fun (W:World) (hW:Q0q W R s (p':Int) (most:Int) d bd) (hTW:Q0e (OnR R) w W)=>Qwj sub hW T8 (Xo2 H) (Xo0 HS) (Xo1 HS) (fun W' hW'=>(Xo2 HS) W' (hTW.trans0 hW')) (by rw[(Xo0 H)];exact (Xe4 HS)) (Xo3 HS);rw[(Xo0 H)] at Vf;obtain ⟨r0,u4⟩:∃r0,Q4p bd p' (Q5c sub (decide (d<16)) L most (s.size+1) p' [])=r0:=⟨_,rfl⟩;rw[u4] at Vf;rw[(Xo1 H),u4] at E6;have hgo:∀x q0,r0=.ok (x,q0)->p'<q0:=fun x q0 e=>by
    rw[e] at u4;cases bd with
    |true=>cases u4
    |false=>
     have hm:=Qaj (most:=most) (Xe4 HS) (s.size+1) (p:=p') [] (by have:=(Xo1 H);omega);have I2:Q5c sub (decide (d<16)) L most (s.size+1) p' []=.ok (x,q0):=u4;rw[I2] at hm;exact hm.1
   have HG:=Ub hgo;have A2:s.size<=1000000:=(Xo2 H);have K5:n+1<=1000001:=(by omega);have HF:=Xh7 Vf P0 hr T8 hf hn E6;clear Vf P0 hr T8 hf E6 u4 hn A2 hgo
   go_upto_region 5 with fail
   go_cut [] (fun wx=>Qxu R s (most:Int) d w n below acc vs r0 wx)
   case first=>
    refine Q31 (by kernel_rfl) (fun D V W=>∃N,EI R s (most:Int) d w wr a n c a2 c2 below acc vs p' bd r0 N D V W) ?_ (by kernel_rfl) ?_ ?_ ?_
    ·rintro i o hi hd D V v W ⟨N,h⟩;exact ⟨N,EI.drop (Qc2 (x:=12) (y:=14) (by kernel_rfl) hi hd) h⟩
    ·intro V;exact ⟨0,(Xo1 HF).start (Xo4 H) (Xo2 HF) V⟩
    ·skip;refine ⟨fun A W D hI F0 hk A0 C2=>?_,?_⟩
     ·obtain ⟨N,h⟩:=hI;have e3:=Q0d F0 3 (by kernel_rfl) rfl;exact Q16 (u:=.pointer (some ⟨w.heap.size,0,none⟩)) rfl (by simp[go_sem,e3]) ⟨N,h.s0⟩
     refine ⟨fun A W D hI F0 hk A0 C2=>?_,?_⟩
     ·obtain ⟨N,h⟩:=hI;have e16:=Q0i (j:=0) (t:=16) rfl (h.v0 (A0 0 (by decide)));have d12:D 12=false:=Q2b C2 (j:=12) rfl (k:=1) (by decide) hk;have k0:=h.c0 d12;exact Q16 (u:=.slice a n c) rfl (by simp[go_sem,e16,k0]) ⟨N,h.s1⟩
     refine ⟨fun A W D hI F0 hk A0 C2=>?_,?_⟩
     ·obtain ⟨N,h⟩:=hI;have e0:=Q0d F0 0 (by kernel_rfl) rfl;exact Q16 (u:=.pointer (some ⟨R,0,none⟩)) rfl (by simp[go_sem,e0]) ⟨N,h.s2⟩
     refine ⟨fun A W D hI F0 hk A0 C2=>?_,?_⟩
     ·obtain ⟨N,h⟩:=hI;have e18:=Q0i (j:=2) (t:=18) rfl (h.v2 (A0 2 (by decide)));have d4:D 4=false:=Q2b C2 (j:=4) rfl (k:=3) (by decide) hk;have d5:D 5=false:=Q2b C2 (j:=5) rfl (k:=3) (by decide) hk;have d10:D 10=false:=Q2b C2 (j:=10) rfl (k:=5) (by decide) d5;have d12:D 12=false:=Q2b C2 (j:=12) rfl (k:=3) (by decide) hk;have d14:D 14=false:=Q2b C2 (j:=14) rfl (k:=3) (by decide) hk;refine Qq8 (f:=183) (args:= #[.pointer (some ⟨R,0,none⟩)]) rfl (by simp[go_sem,e18]) ?_;refine ((Xo0 HF) W (h.rd hk) h.turn).mono ?_;rintro e w3 ⟨t,u,rfl,O9⟩;exact ⟨_,rfl,_,h.s3 d4 d5 d10 d12 d14 ⟨t,u,rfl,O9⟩⟩
     refine ⟨fun A W D hI F0 hk A0 C2=>?_,?_⟩
     ·obtain ⟨N,h⟩:=hI;obtain ⟨_,t,u,hV3,_⟩:=h.nd (A0 3 (by decide));have e19:=Q0i (j:=3) (t:=19) rfl hV3;have s4:=h.s4;rw[hV3] at s4;exact Q16 (u:=.slice (some ⟨W.heap.size,0,none⟩) 1 1) (w':=W.alloc (.cells #[.iface t u] 119)) rfl (by simp[go_sem,e19]) ⟨N,s4⟩
     refine ⟨fun A W D hI F0 hk A0 C2=>?_,?_⟩
     ·obtain ⟨N,h⟩:=hI;obtain ⟨_,t,u,hV3,_⟩:=h.nd (A0 3 (by decide));obtain ⟨b4,hV4,_,F2⟩:=h.v4 (A0 4 (by decide));rw[hV3] at F2;have d10:D 10=false:=Q2b C2 (j:=10) rfl (k:=5) (by decide) hk;have d12:D 12=false:=Q2b C2 (j:=12) rfl (k:=5) (by decide) hk;have d14:D 14=false:=Q2b C2 (j:=14) rfl (k:=5) (by decide) hk;refine Qbd rfl (.tmp 17) (.tmp 20) 175 rfl (w.heap.size+1) 119 i0 .nilIface 16 Tryz.underlying175 E2 P1 G1 K1 rfl (.slice a n c) n vs (Q93 (j:=1) rfl (h.v1 (A0 1 (by decide)))) (h.ra hk) b4 (.iface t u) (Q93 (j:=4) rfl hV4) F2 rfl (by unfold maxLen;omega) (by omega) (by have:=h.st.2.1;have:=h.big;omega) ?_;intro g cap w' I0 K6 Y1;rw[<-hV3] at I0;exact ⟨N,h.s5 (A0 3 (by decide)) hk d10 d12 d14 I0 K6 Y1 rfl⟩
     refine ⟨fun A W D hI F0 hk A0 C2=>?_,?_⟩
     ·obtain ⟨N,h⟩:=hI;have e3:=Q0d F0 3 (by kernel_rfl) rfl;exact Q16 (u:=.pointer (some ⟨w.heap.size,1,none⟩)) rfl (by simp[go_sem,e3]) ⟨N,h.s6⟩
     refine ⟨fun A W D hI F0 hk A0 C2=>?_,?_⟩
     ·obtain ⟨N,h⟩:=hI;have e22:=Q0i (j:=6) (t:=22) rfl (h.v6 (A0 6 (by decide)));have d14:D 14=false:=Q2b C2 (j:=14) rfl (k:=7) (by decide) hk;have k1:=h.c1 d14;exact Q16 (u:=.slice a2 n c2) rfl (by simp[go_sem,e22,k1]) ⟨N,h.s7⟩
     refine ⟨fun A W D hI F0 hk A0 C2=>?_,?_⟩
     ·obtain ⟨N,h⟩:=hI;have e4:=Q0d F0 4 (by kernel_rfl) rfl;exact Q16 (u:=.bool below) rfl (by simp[go_sem,e4]) ⟨N,h.s8⟩
     refine ⟨fun A W D hI F0 hk A0 C2=>?_,?_⟩
     ·obtain ⟨N,h⟩:=hI;have e24:=Q0i (j:=8) (t:=24) rfl (h.v8 (A0 8 (by decide)));exact Q16 (u:=.slice (some ⟨W.heap.size,0,none⟩) 1 1) (w':=W.alloc (.cells #[.bool below] 4)) rfl (by simp[go_sem,e24]) ⟨N,h.s9⟩
     refine ⟨fun A W D hI F0 hk A0 C2=>?_,?_⟩
     ·obtain ⟨N,h⟩:=hI;obtain ⟨b9,hV9,_,V3⟩:=h.v9 (A0 9 (by decide));have d5:=A0 5 (by decide);have d3:=C2 5 _ rfl d5 3 (by decide);have d12:D 12=false:=Q2b C2 (j:=12) rfl (k:=10) (by decide) hk;have d14:D 14=false:=Q2b C2 (j:=14) rfl (k:=10) (by decide) hk;refine Qbd rfl (.tmp 23) (.tmp 25) 176 rfl (w.heap.size+1) 4 i1 (.bool false) 1 Tryz.underlying176 hi1 Ql x8 QG rfl (.slice a2 n c2) n (acc.map fun (z:Bool × Ex)=>Value.bool z.1) (Q93 (j:=7) rfl (h.v7 (A0 7 (by decide)))) (h.rb hk) b9 (.bool below) (Q93 (j:=9) rfl hV9) V3 rfl (by unfold maxLen;omega) (by omega) (by have:=h.st.2.1;have:=h.big;omega) ?_;intro g cap w' I0 K6 Y1;exact ⟨N,h.s10 d3 d5 hk d12 d14 I0 K6 Y1 rfl⟩
     refine ⟨fun A W D hI F0 hk A0 C2=>?_,?_⟩
     ·obtain ⟨N,h⟩:=hI;have e3:=Q0d F0 3 (by kernel_rfl) rfl;exact Q16 (u:=.pointer (some ⟨w.heap.size,0,none⟩)) rfl (by simp[go_sem,e3]) ⟨N,h.s11⟩
     refine ⟨fun A W D hI F0 hk A0 C2=>?_,?_⟩
     ·obtain ⟨N,h⟩:=hI;have e27:=Q0i (j:=11) (t:=27) rfl (h.v11 (A0 11 (by decide)));have d10:=A0 10 (by decide);have d5:=A0 5 (by decide);have d3:=A0 3 (by decide);obtain ⟨g,cap,hV5,_⟩:=h.ra' d5;have e21:=Q0i (j:=5) (t:=21) rfl hV5;have k0:=h.c0 hk;have g0:=h.f0;have s12:=h.s12 d3 d5 d10 hk undef;rw[hV5] at s12;exact Qax rfl (by simp[go_sem,e27,e21,k0,g0]) ⟨N,s12⟩
     refine ⟨fun A W D hI F0 hk A0 C2=>?_,?_⟩
     ·obtain ⟨N,h⟩:=hI;have e3:=Q0d F0 3 (by kernel_rfl) rfl;exact Q16 (u:=.pointer (some ⟨w.heap.size,1,none⟩)) rfl (by simp[go_sem,e3]) ⟨N,h.s13⟩
     refine ⟨fun A W D hI F0 hk A0 C2=>?_,?_⟩
     ·obtain ⟨N,h⟩:=hI;have e28:=Q0i (j:=13) (t:=28) rfl (h.v13 (A0 13 (by decide)));have d10:=A0 10 (by decide);have d5:=A0 5 (by decide);have d3:=A0 3 (by decide);obtain ⟨g,cap,hV10,_⟩:=h.rb' d10;have e26:=Q0i (j:=10) (t:=26) rfl hV10;have k0:=h.c1 hk;have g0:=h.f1;have s14:=h.s14 d3 d5 d10 hk undef;rw[hV10] at s14;exact Qax rfl (by simp[go_sem,e28,e26,k0,g0]) ⟨N,s14⟩
     exact trivial
    ·rintro D V W hD ⟨N,h⟩;have S2:=h.fin (Xo1 HF).len hD;have HX:=Ub S2;clear S2 h hD;simp only[Q0y,Act.put,Uu,UI,UF]
     go_wp2_with fail
     go_meet;exact HX.out
   case rest=>
    obtain ⟨g,cap,g2,cap2,v,hk,o5,KK,h2⟩:=hcut;have HK:=Xh2 KK h2;have hX:=(Xe6 HF);clear KK h2;cases r0 with
    |error e=>
     have h1:=(Xe1 HK);have D3:=Q3m h1.1 h1.2 (by have:=(Xo2 H);omega);simp only[skS,nxB,Xaz] at D3;have H2:=Xh3 D3 h1.2 hX;clear D3 h1 hX;have n43:((((0:UInt8).toNat:Nat):Int)==43)=false:=(by decide);have n45:((((0:UInt8).toNat:Nat):Int)==45)=false:=by decide
     go_wp2_with (go_at_call_of 131 (Value.pointer (some ⟨R,0,none⟩));refine (Xo0 H2).mono ?_;rintro r w2 ⟨rfl,X0,M1⟩;have k2:=(M1.cell (p:=⟨w.heap.size,0,none⟩) (UA hk) (fun (e:w.heap.size=R)=>by have:=(Xo4 H);omega)).trans hk;have k3:=(M1.cell (p:=⟨w.heap.size,1,none⟩) (UA o5) (fun (e:w.heap.size=R)=>by have:=(Xo4 H);omega)).trans o5;have H3:=Xh2 X0 M1;clear X0 M1)
     first|rw[Xab]|skip
     go_ret;rw[(Xe2 H2)];exact Q6w.err ((Xo0 HK).trans0 (Xe1 H3)) (Xo0 H3) (Xo1 H2)
    |ok z=>
     obtain ⟨x,q0⟩:=z;have h1:=(Xe1 HK);obtain ⟨q,hq⟩:∃q,Q05 L q0=q:=⟨_,rfl⟩;have JH:q<=s.size:=(by rw[<-hq,<-(Xo1 H)];exact Q3a (by have:=(Xo1 H);have:=h1.2.2;omega));obtain ⟨c,hc⟩:∃c,Q07 L q=c:=⟨_,rfl⟩;have E6:X=if c=43 then Qbn sub (decide (d<16)) L most f (q+1) false (acc++[(below,x)]) else if c=45 then Qbn sub (decide (d<16)) L most f (q+1) true (acc++[(below,x)]) else .ok (.sum (acc++[(below,x)]),q):=by
      rw[hX];simp only[hq,hc]
     have D3:=Q3m h1.2.1 h1.2.2 (by have:=(Xo2 H);omega);rw[(Xo0 H)] at D3;simp only[skS,nxB,Th,Xac,hq,hc] at D3;have m9:p'<q:=(by have:=HG.out x q0 rfl;have:=Q64 L q0;omega);have G4:IntKind.i64.wrap ((q:Int)+1)=(q:Int)+1:=by rw[UN];have:=(Xo2 H);omega
     by_cases h43:c=43
     ·subst h43;have o6:q+1<=s.size:=(by have:=Q0k hc (by decide);have:=(Xo1 H);omega);rw[Us rfl] at E6;have n43:((((43:UInt8).toNat:Nat):Int)==43)=true:=(by decide);have H2:=Xh5 D3 h1.1 E6 o6 m9;clear D3 h1 E6 hX o6 m9 hq hc JH
      go_wp2_with (go_at_call_of 131 (Value.pointer (some ⟨R,0,none⟩));refine (Xo0 H2).mono ?_;rintro r w2 ⟨rfl,X0,M1⟩;have k1:=X0.c1;have g1:=X0.f1;have H3:=Xh2 X0 M1;clear X0 M1)
      have Y9:Q0q (w2.setCell ⟨R,1,none⟩ (.int .i64 ((q:Int)+1))) R s ((q+1:Nat):Int) (most:Int) d false:=(Xo0 H3).setAt ((q:Int)+1);refine ⟨⟨f,q+1,false,false,_,n+1,cap,_,cap2,acc++[(below,x)],vs++[v],rfl,((Xo1 H2).step (Xo4 H) (Xe1 H3)).step (Xo4 H) (Q1x w2 R 1 (.int .i64 ((q:Int)+1))),Y9,(Xo3 H2),?_,?_,(Xo2 H2)⟩,?_⟩
      ·have:=(Xo4 HF);have:=(Xe4 H2);omega
      ·have:=(Xo5 HF);have:=(Xe4 H2);omega
      ·rw[Y9.atOf,(Xo2 HF).atOf];have:=(Xo3 H2);have:=(Xe4 H2);omega
     ·by_cases h45:c=45
      ·subst h45;have o6:q+1<=s.size:=(by have:=Q0k hc (by decide);have:=(Xo1 H);omega);rw[Up (by decide),Us rfl] at E6;have n43:((((45:UInt8).toNat:Nat):Int)==43)=false:=(by decide);have n45:((((45:UInt8).toNat:Nat):Int)==45)=true:=(by decide);have H2:=Xh5 D3 h1.1 E6 o6 m9;clear D3 h1 E6 hX o6 m9 hq hc JH
       go_wp2_with (go_at_call_of 131 (Value.pointer (some ⟨R,0,none⟩));refine (Xo0 H2).mono ?_;rintro r w2 ⟨rfl,X0,M1⟩;have k1:=X0.c1;have g1:=X0.f1;have H3:=Xh2 X0 M1;clear X0 M1)
       have Y9:Q0q (w2.setCell ⟨R,1,none⟩ (.int .i64 ((q:Int)+1))) R s ((q+1:Nat):Int) (most:Int) d false:=(Xo0 H3).setAt ((q:Int)+1);refine ⟨⟨f,q+1,true,false,_,n+1,cap,_,cap2,acc++[(below,x)],vs++[v],rfl,((Xo1 H2).step (Xo4 H) (Xe1 H3)).step (Xo4 H) (Q1x w2 R 1 (.int .i64 ((q:Int)+1))),Y9,(Xo3 H2),?_,?_,(Xo2 H2)⟩,?_⟩
       ·have:=(Xo4 HF);have:=(Xe4 H2);omega
       ·have:=(Xo5 HF);have:=(Xe4 H2);omega
       ·rw[Y9.atOf,(Xo2 HF).atOf];have:=(Xo3 H2);have:=(Xe4 H2);omega
      ·rw[Up h43,Up h45] at E6;have n43:((c.toNat:Int)==43)=false:=Qdp (k:=43) (by decide) h43;have n45:((c.toNat:Int)==45)=false:=Qdp (k:=45) (by decide) h45;have H2:=Xh4 D3 h1.1 E6 JH;clear D3 h1 E6 hX JH m9 hq hc h43 h45
       go_wp2_with (go_at_call_of 131 (Value.pointer (some ⟨R,0,none⟩));refine (Xo0 H2).mono ?_;rintro r w2 ⟨rfl,X0,M1⟩;have k2:=(M1.cell (p:=⟨w.heap.size,0,none⟩) (UA hk) (fun (e:w.heap.size=R)=>by have:=(Xo4 H);omega)).trans hk;have k3:=(M1.cell (p:=⟨w.heap.size,1,none⟩) (UA o5) (fun (e:w.heap.size=R)=>by have:=(Xo4 H);omega)).trans o5;have H3:=Xh2 X0 M1;clear X0 M1)
       first|rw[Xab]|skip
       go_ret;rw[(Xo2 H2)];have p5:=(Xo1 H2).step (Xo4 H) (Xe1 H3);refine Q6w.okd ((Xo0 HK).trans0 (Xe1 H3)) ?_ (Xo0 H3) (Xe3 H2);exact J0q p5 (by simp)
theorem Q8n {R:Nat} {s:ByteArray} {most:Nat} (hs:s.size<=1000000):∀(k:Nat) (w:World) (p:Nat) (bad:Bool) (d:Int),d=16-(k:Int)->k<=16->Q0q w R s (p:Int) (most:Int) d bad->p<=s.size->(∀W,Q0e (OnR R) w W->Q1s W)->
 Calls Tryz.prog 130 #[.pointer (some ⟨R,0,none⟩)] w (Q6w R s (most:Int) d (Q4p bad p (Q8d s.data.toList most k p)) w)
 |0,w,p,bad,d,hd,_,h,hp,hT=>by
  have he:=Q8m (fun q=>.error q) h hp hs (by omega) (by omega) hT (fun hdd=>by have:=Xa0 hdd;omega) (fun hdd=>by omega);have hf:decide (d<16)=false:=Ta (by omega);rw[hf] at he;exact he
 |k+1,w,p,bad,d,hd,hk,h,hp,hT=>by
  have he:=Q8m (Q8d s.data.toList most k) h hp hs (by omega) (by omega) hT (fun _ p hp=>Qak s.data.toList most k p hp) (fun _ W q hW hq hTW=>Q8n hs k W q false (d+1) (by omega) (by omega) hW hq hTW);have hf:decide (d<16)=true:=UQ (by omega);rw[hf] at he;exact he
theorem Qu5 {i:Nat} (h:i<9):(Q3u i).length=6:=by rw[Q3u,Q2i (by omega)];rfl
theorem Qod (i:Nat) (hi:i<9) (w:World):Calls Tryz.prog 70 #[.int .i64 (i:Int)] w fun e w'=>e=.returned (.string ⟨(Q3u i).toArray⟩)/\w=w':=by
 have Z6:IntKind.i64.wrap ((i:Int)+1)=(i:Int)+1:=by rw[UN];omega
 have Q8:=Tryz.J3a (i+1) (by omega) w;rw[show ((i+1:Nat):Int)=(i:Int)+1 by omega] at Q8;obtain ⟨c,hc⟩:∃c,Lib.decDigits (i+1)=[c]:=⟨_,Q2i (by omega)⟩;rw[hc] at Q8;have H:=Xh2 Q8 hc;clear Q8 hc
 go_enter Tryz.func70,Tryz.ntmps70
 go_wp2_with fail
 refine (Xo0 H).mono ?_;rintro r w1 ⟨rfl,rfl⟩
 go_wp2_with fail
 go_ret;refine ⟨?_,rfl⟩;rw[Q3u,show dec (i+1)=[c] from (Xe1 H)];rfl
def Qwx:List (Nat × Ex)->LV->LV
 |(p,_)::r,u::s=>.int .i64 (p:Int)::u::Qwx r s
 |_,_=>[]
theorem Qjv (p:Nat) (x:Ex) (u:Value):∀(acc:List (Nat × Ex)) (us:LV),acc.length=us.length->Qwx (acc++[(p,x)]) (us++[u])=Qwx acc us++[.int .i64 (p:Int),u]
 |[],[],_=>rfl
 |(q,y)::r,v::s,h=>by
  rw[Tt,Tt,Qwx,Qwx,Qjv p x u r s (by simpa using h)];rfl
 |[],_::_,h=>by simp at h
 |_::_,[],h=>by simp at h
def Q5l (w:World) (g:Nat) (o:Nat):List (Nat × Ex)->Prop
 |[]=>True
 |(p,x)::r=>w.cell? ⟨g,o,none⟩=some (.int .i64 (p:Int))/\(∃u,w.cell? ⟨g,o+1,none⟩=some u/\Q2w (fun _=>False) w x u)/\Q5l w g (o+2) r
theorem Q5l.step {w w':World} {g:Nat} (hg:g<w.heap.size) (hb:Bw w w'):∀{l:List (Nat × Ex)} {o:Nat},Q5l w g o l->Q5l w' g o l
 |[],_,_=>trivial
 |(_,_)::_,_,h=>⟨(hb.cell (p:=⟨g,_,none⟩) hg).trans h.1,by obtain ⟨u,h1,h2⟩:=h.2.1;exact ⟨u,(hb.cell (p:=⟨g,_,none⟩) hg).trans h1,h2.step hb⟩,Q5l.step hg hb h.2.2⟩
theorem Qoe {fp:Nat->Prop} {w:World} {g:Nat}:∀{l:List (Nat × Ex)} {us:LV} (o:Nat),Q1a fp w (l.map (·.2)) us->(∀j v,(Qwx l us)[j]?=some v->w.cell? ⟨g,o+j,none⟩=some v)->Q5l w g o l
 |[],_,_,_,_=>trivial
 |(p,x)::r,u::s,o,h,hc=>by
  refine ⟨by simpa using hc 0 _ rfl,⟨u,hc 1 u rfl,h.1.more fun _ h=>h.elim⟩,Qoe (o+2) h.2 fun j v hv=>?_⟩;have:=hc (j+2) v (by simpa[Qwx] using hv);rwa[show o+(j+2)=o+2+j by omega] at this
 |_::_,[],_,h,_=>h.elim
def Q5z (w:World) (X:Except Nat (List (Nat × Ex))) (e:Ending) (w':World):Prop:=
 ∃a n c p b,e=.returned (.tuple #[.slice a n c,.int .i64 p,.bool b])/\Bw w w'/\match X with
  | .error q=>b=false/\p=(q:Int)
  | .ok l=>b=true/\∃g,a=some ⟨g,0,none⟩/\g<w'.heap.size/\n=l.length/\n<=c/\c<=maxLen/\Q5l w' g 0 l
theorem Q5z.bad {w w':World} {X:Except Nat (List (Nat × Ex))} {p n c:Nat} {a:OA} (hX:X=.error p) (hb:Bw w w'):Q5z w X (.returned (.tuple #[.slice a n c,.int .i64 (p:Int),.bool false])) w':=
 ⟨a,n,c,(p:Int),false,rfl,hb,by rw[hX];exact ⟨rfl,rfl⟩⟩
theorem Below.drewN' {B:Nat} {w w':World} (h:Below B w w') (k:Nat):Below B w (w'.drewN k):=⟨h.os,h.tape,h.output,h.size,h.block⟩
structure Qjw (w wr:World) (a:OA) (n c:Nat) (acc:List (Nat × Ex)) (us:LV):Prop where
 row:Row wr (w.heap.size+1) 121 2 a n c (Qwx acc us)
 nodes:Q1a (fpR w.heap.size a) wr (acc.map (·.2)) us
 len:acc.length=n
theorem Qg1 {w:World} {B k:Nat} {T:TypeId} {a:OA} {n c:Nat} {vs:LV} (h:Row w B T k a n c vs) {x:Addr} (hx:a=some x):B<=x.block/\x.block<w.heap.size:=by
 rcases h.form with ⟨h0,_⟩|⟨g,cur,h0,h1,h2,_⟩
 ·rw[h0] at hx;cases hx
 ·rw[h0] at hx;injection hx with hx;subst hx;exact ⟨h1,h2⟩
theorem Q5z.good {w wr:World} {X:Except Nat (List (Nat × Ex))} {p:Int} {n c:Nat} {a:OA} {acc:List (Nat × Ex)} {us:LV} {k:Nat} (h:Qjw w wr a n c acc us) (hX:X=.ok acc) (hn:n≠0) (hb:Bw w wr):Q5z w X (.returned (.tuple #[.slice a n c,.int .i64 p,.bool true])) (wr.drewN k):=by
 refine ⟨a,n,c,p,true,rfl,⟨hb.os,hb.tape,hb.output,hb.size,hb.block⟩,?_⟩;rw[hX];rcases h.row.form with ⟨_,h0,_⟩|⟨g,cur,rfl,h1,h2,h3,h4,h5,h6,h7⟩
 ·exact absurd h0 hn
 ·refine ⟨rfl,g,rfl,h2,h.len.symm,h4,h5,?_⟩;have hl:Q5l wr g 0 acc:=Qoe 0 h.nodes fun j v hv=>by
   obtain ⟨g',e,_,_,hc⟩:=h.row.at_ hv;injection e with e;injection e with e;subst e;rw[UH];exact hc
  exact hl.step h2 (Qj9 _ _)
theorem Qjw.step {w wr w':World} {a:OA} {n c:Nat} {acc:List (Nat × Ex)} {us:LV} (h:Qjw w wr a n c acc us) (ht:Q0e (OnR w.heap.size) wr w'):Qjw w w' a n c acc us:=
 ⟨h.row.turn ht (fun x hx (e:x.block=w.heap.size)=>by have:=Qg1 h.row hx;omega),h.nodes.turn ht (fun k (hk:k=w.heap.size)=>.inl (Xbw hk)),h.len⟩
theorem Qjw.next {w w3 w4:World} {a:OA} {n c:Nat} {acc:List (Nat × Ex)} {us:LV} {B3:Nat} (h:Qjw w w3 a n c acc us) (E0:w.heap.size<B3) (Kv:∀x,a=some x->x.block<B3) {o:Obj} (K6:(w3.alloc o).grownBy w4 (a.map (·.block))) {a':OA} {cap p:Nat} {x:Ex} {u:Value} (hx:Q2w (·<B3) w3 x u)
 (I0:Row w4 (w.heap.size+1) 121 2 a' (n+1) cap (Qwx acc us++[.int .i64 (p:Int),u])) (Y1:a'.map (·.block)=a.map (·.block)∨a'.map (·.block)=some (w3.alloc o).heap.size):
 Qjw w w4 a' (n+1) cap (acc++[(p,x)]) (us++[u]):=by
 have Kw:∀k,fpR w.heap.size a' k->fpR w.heap.size a k∨w3.heap.size<=k:=by
  rintro k (hk|⟨y,hy,hk⟩)
  ·exact .inl (.inl hk)
  ·subst hy;rcases Y1 with h1|h1
   ·cases a with
    |none=>simp at h1
    |some z=>simp only[Uz,Uj] at h1;exact .inl (.inr ⟨z,rfl,by rw[<-h1];exact hk⟩)
   ·simp only[Uz,Uj] at h1;rw[Ui] at h1;exact .inr (by omega)
 have JY:Q0e (fun k=>∃y,a=some y/\y.block=k) w3 w4:=(Q0e.of_below (Ba) _).trans0 (Q0e.of_grown K6 fun r hr _=>by
  cases a with
  |none=>simp at hr
  |some y=>simp only[Uz,Uj] at hr;exact ⟨y,rfl,hr⟩)
 have hU:∀k,(fpR w.heap.size a k∨fpR w.heap.size a' k)->fpR w.heap.size a k∨w3.heap.size<=k:=fun k hk=>hk.elim .inl (Kw k);have hA:∀k,fpR w.heap.size a k->k<B3:=by
  rintro k (hk|⟨y,hy,rfl⟩)
  ·omega
  ·exact Kv y hy
 refine ⟨?_,?_,by rw[Uh,h.len];rfl⟩
 ·rw[Qjv _ _ _ _ _ (by have:=h.nodes.len;simpa using this)];exact I0
 ·rw[UR];have K5:=((h.nodes.more hU).turn JY (fun k hk=>.inl (.inr hk))).more (fp':=fpR w.heap.size a') (fun k hk=>.inl (.inr hk));have h1:=((hx.more (fp':=fun k=>fpR w.heap.size a k∨fpR w.heap.size a' k) fun k hk=>(hU k hk).imp (hA k) id).turn JY (fun k hk=>.inl (.inr hk))).more (fp':=fpR w.heap.size a') (fun k hk=>.inl (.inr hk));exact K5.snoc h1
theorem Qj6.form {R:Nat} {s:ByteArray} {m d:Int} {X:Except Nat Nat} {w:World} (h:Qj6 R s m d X w):∃(q:Nat) (b:Bool),Q0q w R s (q:Int) m d b/\q<=s.size/\X=if b=true then .error q else .ok q:=by
 unfold Qj6 at h;cases X with
 |error q=>exact ⟨q,true,h.1,h.2,rfl⟩
 |ok q=>exact ⟨q,false,h.1,h.2,rfl⟩
theorem Q6w.form {R:Nat} {s:ByteArray} {m d:Int} {r:PR Ex} {w:World} {e:Ending} {w':World} (h:Q6w R s m d r w e w'):∃(t:TypeId) (u:Value) (q:Nat) (b:Bool),e=.returned (.iface t u)/\Q0e (OnR R) w w'/\Q0q w' R s (q:Int) m d b/\q<=s.size/\(b=true->r=.error q)/\(b=false->∃x,r=.ok (x,q)/\Q2w (·<w.heap.size) w' x (.iface t u)):=by
 obtain ⟨t,u,rfl,ht,h2⟩:=h;cases r with
 |error q=>exact ⟨t,u,q,true,rfl,ht,h2.1,h2.2,fun _=>rfl,fun e=>by cases e⟩
 |ok z=>exact ⟨t,u,z.2,false,rfl,ht,h2.2.1,h2.2.2,(fun e=>by cases e),fun _=>⟨z.1,rfl,h2.1⟩⟩
theorem Qql {L:LU} {m n p q1 q2 q4:Nat} {b1 b2 b4:Bool} (h1:Q2f L (Q3u n) p=if b1=true then .error q1 else .ok q1)
 (h2:b2=true->Q4p b1 q1 (Q8d L m 16 q1)=.error q2) (h3:b2=false->∃x,Q4p b1 q1 (Q8d L m 16 q1)=.ok (x,q2))
 (h4:(if b2=true then Except.error (skS L q2 b2) else Q2f L [10] (skS L q2 b2))=if b4=true then Except.error q4 else Except.ok q4):
 (b4=true->Qgl L m n p=.error q4)/\(b4=false->b1=false/\b2=false/\∃x,Q8d L m 16 q1=.ok (x,q2)/\Qgl L m n p=.ok (x,q4)):=by
 unfold Qgl;cases b1 with
 |true=>
  have D0:b2=true:=by
   cases b2 with
   |true=>rfl
   |false=>obtain ⟨x,hx⟩:=h3 rfl;cases hx
  subst D0;have e:=h2 rfl;have e:Except.error q1=(Except.error q2:PR Ex):=e;injection e with e;subst e;rw[h1];simp only[Xaz,skS] at h4⊢;cases b4 with
  |true=>simp only[Xaz] at h4;injection h4 with h4;subst h4;exact ⟨fun _=>rfl,fun e=>by cases e⟩
  |false=>simp at h4
 |false=>
  rw[h1];simp only[Th,Xac];have e2:Q4p false q1 (Q8d L m 16 q1)=Q8d L m 16 q1:=rfl;rw[e2] at h2 h3;cases b2 with
  |true=>
   rw[h2 rfl];simp only[Xaz,skS] at h4⊢;cases b4 with
   |true=>simp only[Xaz] at h4;injection h4 with h4;subst h4;exact ⟨fun _=>rfl,fun e=>by cases e⟩
   |false=>simp at h4
  |false=>
   obtain ⟨x,hx⟩:=h3 rfl;rw[hx];simp only[Th,Xac,skS,Qtn] at h4⊢
   by_cases QL:Q07 L (Q05 L q2)=10
   ·rw[Us QL] at h4⊢;cases b4 with
    |true=>simp at h4
    |false=>simp only[Th,Xac] at h4;injection h4 with h4;subst h4;exact ⟨(fun e=>by cases e),fun _=>⟨trivial,trivial,x,rfl,rfl⟩⟩
   ·rw[Up QL] at h4⊢;cases b4 with
    |true=>simp only[Xaz] at h4;injection h4 with h4;subst h4;exact ⟨fun _=>rfl,fun e=>by cases e⟩
    |false=>simp at h4
theorem Qu6:(Tryz.prog.info? 121).map (fun i=>(i.zero,i.size,i.bytes))=some (some (.agg #[.int .i64 0,.nilIface]),2,24):=by kernel_rfl
def nOf (v:Value):Nat:=match v with| .slice _ n _=>n|_=>0
def J0r (w:World) (s:ByteArray) (L:LU) (m:Nat) (X:Except Nat (List (Nat × Ex))) (sv:Value) (wr:World):Prop:=
 ∃(p:Nat) (bd:Bool) (a:OA) (n c:Nat),sv=.slice a n c/\n<=5/\Q0q wr w.heap.size s (p:Int) (m:Int) 0 bd/\p<=s.size/\Bw w wr/\
  (bd=true->X=.error p/\0<n)/\(bd=false->n<=4/\∃acc us,Qjw w wr a n c acc us/\X=if n=0∨p<s.size then Q4v L m (4-n) p acc else .ok acc)
theorem Qu7 (s:ByteArray) (w:World) (hs:s.size<=1000000) (hT:Q1s w):
 Calls Tryz.prog 84 #[.string s] w (Q5z w (Q4v s.data.toList (min (s.data.toList.count 10) 4) 4 0 [])):=by
 obtain ⟨i0,E2,P1,G1,K1⟩:=Q0p Qu6;obtain ⟨L,hL⟩:∃L,s.data.toList=L:=⟨_,rfl⟩;have t8:L.length=s.size:=by rw[<-hL];rfl
 have I6:Calls Tryz.prog 128 #[.string s,.string ⟨#[10]⟩] w fun e w'=>e=.returned (.int .i64 (Lib.countByte s.data.toList 10:Nat))/\w=w':=(Tryz.J3p s 10 w).mono fun _ _ h=>⟨h.1,h.2.symm⟩;obtain ⟨N,hN⟩:∃N:Nat,Lib.countByte s.data.toList 10=N:=⟨_,rfl⟩;rw[hN] at I6;have hNc:L.count 10=N:=by rw[<-hL];exact hN
 obtain ⟨M,hM⟩:∃M:Nat,min N 4=M:=⟨_,rfl⟩;have hmin:min (N:Int) 4=(M:Int):=by omega
 obtain ⟨X,hX⟩:∃X,Q4v L M 4 0 []=X:=⟨_,rfl⟩;rw[hL,hNc,hM,hX];have O4:Bw w (w.alloc (.cells #[.string s,.int .i64 0,.int .i64 (M:Int),.int .i64 0,.bool false] 166)):=Ba;have i9:Q0q (w.alloc (.cells #[.string s,.int .i64 0,.int .i64 (M:Int),.int .i64 0,.bool false] 166)) w.heap.size s ((0:Nat):Int) (M:Int) 0 false:=by
  have hc:=fun o=>Uv (w.alloc (.cells #[.string s,.int .i64 0,.int .i64 (M:Int),.int .i64 0,.bool false] 166)) w.heap.size o _ _ _ (Um _ _);have hf:=fun o=>TC (w.alloc (.cells #[.string s,.int .i64 0,.int .i64 (M:Int),.int .i64 0,.bool false] 166)) w.heap.size o _ _ (Um _ _);exact ⟨(hc 0).trans rfl,(hc 1).trans rfl,(hc 2).trans rfl,(hc 3).trans rfl,(hc 4).trans rfl,hf 0,hf 1,hf 2,hf 3,hf 4,Q0h _ _,fun o ho=>by rw[hc o];exact Array.getElem?_eq_none (by simpa using ho)⟩
 have H:=Xh8 hL t8 hs I6 hX hT O4 i9;clear hL t8 hs I6 hN hNc hX hT hM O4 i9
 go_enter Tryz.func84,Tryz.ntmps84
 go_wp2_with (go_at_call_of 128 (Value.string s);refine (Xo3 H).mono ?_;rintro r w1 ⟨rfl,rfl⟩)
 go_loopw [6] (fun sv wr=>J0r w s L M X sv wr) (fun sv _=>5-nOf sv)
 case atStart=>
  exact ⟨0,false,none,0,0,rfl,by omega,(Xe7 H),Ut _,(Xo6 H),(fun e=>by cases e),fun _=>⟨by omega,[],[],⟨Row.nil_ _ _ _ _,trivial,rfl⟩,by rw[Us (.inl rfl)];exact (Xo4 H).symm⟩⟩
 case round=>
  obtain ⟨p,bd,a,n,c,rfl,hn5,hr,hp,hb,Qq,Jo⟩:=hrel;obtain ⟨b,KI⟩:∃b:Bool,(if bd=true then false else decide (n=0∨p<s.size))=b:=⟨_,rfl⟩;have k0:=hr.c0;have k1:=hr.c1;have k4:=hr.c4;have HR:=Xh7 hr hp hb Qq Jo KI hn5;clear hr hp hb Qq Jo KI
  go_upto_region 3 with fail
  go_cut [40] (fun v wx=>v=.bool b/\wr=wx)
  case first=>
   have KI:=(Xo5 HR);have h0n:=(Xo3 HR);cases bd with
   |true=>
    have A9:((n:Int)==0)=false:=(by rw[Uk];have:=(h0n rfl).2;omega);simp only[Xaz] at KI;subst KI;clear h0n
    by_cases E0:p<s.size
    ·have J0:(p:Int)<(s.size:Int):=by omega
     go_wp2_with fail
     go_meet;exact ⟨rfl,rfl⟩
    ·have J0:¬(p:Int)<(s.size:Int):=by omega
     go_wp2_with fail
     go_meet;exact ⟨rfl,rfl⟩
   |false=>
    clear h0n;simp only[Th,Xac] at KI
    by_cases E0:p<s.size
    ·have J0:(p:Int)<(s.size:Int):=(by omega);rw[UQ (Or.inr E0)] at KI;subst KI
     go_wp2_with fail
     go_meet;exact ⟨rfl,rfl⟩
    ·have J0:¬(p:Int)<(s.size:Int):=by omega
     by_cases A9:n=0
     ·rw[UQ (Or.inl A9)] at KI;have hn0':((n:Int)==0)=true:=(by rw[A9];rfl);subst KI;clear A9
      go_wp2_with fail
      go_meet;exact ⟨rfl,rfl⟩
     ·rw[Ta (fun h=>h.elim A9 E0)] at KI;have hn0':((n:Int)==0)=false:=(by rw[Uk];omega);subst KI;clear A9
      go_wp2_with fail
      go_meet;exact ⟨rfl,rfl⟩
  case rest=>
   obtain ⟨rfl,rfl⟩:=hcut;cases b with
   |false=>
    cases bd with
    |true=>
     have hx:=((Xo3 HR) rfl).1;have HX:=Ub hx;clear hx
     go_wp2_with fail
     go_quiet (fail)
     go_wp2_with fail
     exact ⟨rfl,.tuple #[.slice a n c,.int .i64 (p:Int),.bool false],by simp[results,go_sem],Q5z.bad HX.out (Below.drewN' (Xo2 HR) _)⟩
    |false=>
     obtain ⟨Qj,acc,us,P0,hx⟩:=(Xo4 HR) rfl;have hnot:¬(n=0∨p<s.size):=of_decide_eq_false (by have:=(Xo5 HR);simpa using this);rw[Up hnot] at hx;have HX:=Xh3 P0 hx hnot;clear P0 hx hnot Qj
     go_wp2_with fail
     go_quiet (fail)
     go_wp2_with fail
     exact ⟨rfl,.tuple #[.slice a n c,.int .i64 (p:Int),.bool true],by simp[results,go_sem],Q5z.good (Xo0 HX) (Xo1 HX) (fun h=>(Xe2 HX) (.inl h)) (Xo2 HR)⟩
   |true=>
    have Y8:bd=false:=by
     have:=(Xo5 HR);cases bd with
     |false=>rfl
     |true=>simp at this
    subst Y8;obtain ⟨Qj,acc,us,P0,hx⟩:=(Xo4 HR) rfl;have WT:n=0∨p<s.size:=Xa0 (by have:=(Xo5 HR);simpa using this);rw[Us WT] at hx
    by_cases h4:n=4
    ·subst h4;have QQ:X=.error p:=(by rw[hx];rfl);have HX:=Ub QQ;clear hx QQ P0 WT Qj
     go_wp2_with fail
     go_quiet (fail)
     go_wp2_with fail
     exact ⟨rfl,.tuple #[.slice none 0 0,.int .i64 (p:Int),.bool false],by simp[results,go_sem],Q5z.bad HX.out (Below.drewN' (Xo2 HR) _)⟩
    ·have hn4':((n:Int)==4)=false:=(by rw[Uk];omega);have WI:s.size<=281474976710656:=(by have:=(Xo2 H);omega);have Jb:=fun W=>Qod n (by omega) W;have Xm:=fun W (hW:Q0q W w.heap.size s (p:Int) (M:Int) 0 false)=>Qa1 hW (Xo1 HR) WI ⟨(Q3u n).toArray⟩ (by show (Q3u n).toArray.size<=_;rw[List.size_toArray,Qu5 (by omega)];decide) (by
      have:=Qtg (i:=n) (by omega);intro c hc e;subst e;exact this (by simpa using hc)) (by rw[Q3u];exact Nat.succ_pos _)
     rw[(Xo0 H)] at Xm;simp only[Th,Xac] at Xm;have WD:∀W1 W,Bw w W1->Q0e (OnR w.heap.size) W1 W->Q1s W:=fun W1 W h1 h2=>(Xo5 H).step (Below.turn h1 h2 h1.size (fun k (hk:k=w.heap.size)=>by omega));have y6:=fun (W:World) (q:Nat) (bd':Bool) (hW:Q0q W w.heap.size s (q:Int) (M:Int) 0 bd') (hq:q<=s.size) (M7:Bw w W)=>Q8n (Xo2 H) 16 W q bd' 0 (by decide) (by decide) hW hq (fun W' h'=>WD W W' M7 h');rw[(Xo0 H)] at y6;have Yj:=fun (W:World) (q:Nat) (bd':Bool) (hW:Q0q W w.heap.size s (q:Int) (M:Int) 0 bd') (hq:q<=s.size)=>Q3m hW hq WI;rw[(Xo0 H)] at Yj;have A4:=fun (W:World) (q:Nat) (bd':Bool) (hW:Q0q W w.heap.size s (q:Int) (M:Int) 0 bd') (hq:q<=s.size)=>Qa1 hW hq WI ⟨#[10]⟩ (by decide) (by decide) (by decide);rw[(Xo0 H)] at A4;have HC:=Xh5 Jb Xm y6 Yj A4;have HX:=Xh4 P0 hx WT Qj;have HI:=Xh4 E2 P1 G1 K1;clear Jb Xm y6 Yj A4 P0 hx WT Qj WI WD
     go_upto_region 8 with (first
      |(go_at_call_of 70 (Value.int IntKind.i64 (n:Int));refine ((Xo0 HC) _).mono ?_;rintro r w1 ⟨rfl,rfl⟩)
      |(go_at_call_of 129 (Value.pointer (some ⟨w.heap.size,0,none⟩));refine ((Xo1 HC) _ (Xo0 HR)).mono ?_;rintro r w1 ⟨rfl,Q2,Y3⟩;obtain ⟨q1,b1,I2,o6,XB⟩:=Y3.form;have H1:=Xh4 Q2 I2 o6 XB;clear Q2 I2 o6 XB Y3))
     have C0:Bw w w1:=Below.turn (Xo2 HR) (Xo0 H1) (Xo2 HR).size (fun k (hk:k=w.heap.size)=>by omega);have K0:=Ub C0;clear C0
     go_upto_region 9 with (go_at_call_of 130 (Value.pointer (some ⟨w.heap.size,0,none⟩));refine ((Xo2 HC) w1 q1 b1 (Xo1 H1) (Xo2 H1) K0.out).mono ?_;rintro r w2 JU;obtain ⟨t,u,q2,b2,rfl,M1,X0,F6,C6,hn2'⟩:=JU.form;have H2:=Xh5 M1 X0 F6 C6 hn2';clear M1 X0 F6 C6 hn2' JU)
     go_upto_region 10 with (go_at_call_of 131 (Value.pointer (some ⟨w.heap.size,0,none⟩));refine ((Xo3 HC) w2 q2 b2 (Xo1 H2) (Xo2 H2)).mono ?_;rintro r w3 ⟨rfl,m7,Z5⟩;have H3:=Xh2 m7 Z5;clear m7 Z5)
     have QR:skS L q2 b2<=s.size:=by
      unfold skS
      split
      ·exact (Xo2 H2)
      ·rw[<-(Xo1 H)];exact Q3a (by have:=(Xo1 H);have:=(Xo2 H2);omega)
     have HQ3:=Ub QR;clear QR
     go_upto_region 11 with (go_at_call_of 129 (Value.pointer (some ⟨w.heap.size,0,none⟩));refine ((Xe4 HC) w3 _ b2 (Xo0 H3) HQ3.out).mono ?_;rintro r w4 ⟨rfl,I9,hf4⟩;obtain ⟨q4,b4,Y9,hq4,he4⟩:=hf4.form;have H4:=Xh4 I9 Y9 hq4 he4;clear I9 Y9 hq4 he4 hf4)
     obtain ⟨G5,i4⟩:=Qql (Xe3 H1) (Xo3 H2) (fun e=>((Xe4 H2) e).imp fun _ h=>h.1) (Xe3 H4);have hst4:=((((Xo0 HX).step (Xo0 H1)).step (Xo0 H2)).step (Xe1 H3)).step (Xo0 H4);have ht24:=(Xe1 H3).trans0 (Xo0 H4);have F2:Bw w w4:=Below.turn K0.out ((Xo0 H2).trans0 ht24) K0.out.size (fun k (hk:k=w.heap.size)=>by omega);have K5:n+1<=5:=(by have:=(Xe3 HX);omega);obtain ⟨E2,P1,G1,K1⟩:=HI.out;have QD:=hst4.row;have hsz4:w.heap.size+1<=w4.heap.size:=(Xo1 H4).lt;have HL:=Xh5 G5 i4 hst4 ht24 F2;clear G5 i4 hst4 ht24 F2
     go_wp2_with (at_builtin;refine Q0o rfl (.tmp 63) (.tmp 67) 115 rfl _ _ 121 i0 _ 2 24 Tryz.underlying115 E2 P1 G1 K1 rfl (by decide) (w.heap.size+1) (Ug _ _) (by rw[Ui];omega) a n c _ rfl (QD.alloc _) ⟨w4.heap.size,0,none⟩ 1 1 [.int .i64 (p:Int),.iface t u] rfl rfl (Tx (cs:= #[.int .i64 (p:Int),.iface t u]) (Um w4 _)) (by simp[Value.oneCell']) (n+1) rfl (by omega) (by omega) ?_;intro a5 c5 w5 ho5 hg5 Z0 hat5;have HO:=Xh4 ho5 Z0 hg5 hat5;clear ho5 hg5 Z0 hat5)
     have hB:Bw w w5:=((Xe4 HL).alloc (Xe4 HL).size _).trans ⟨(Xo1 HO).os,(Xo1 HO).tape,(Xo1 HO).output,(Xo1 HO).size,fun k hk=>(Xo1 HO).block k (by omega)⟩;have hst5:=(Xo2 HL);have Kv:∀x,a=some x->w.heap.size+1<=x.block/\x.block<w1.heap.size:=fun x hx=>Qg1 ((Xo0 HX).step (Xo0 H1)).row hx;have Vf:Q0e (fun k=>∃y,a=some y/\y.block=k) w4 w5:=(Q0e.of_below (Ba) _).trans0 (Q0e.of_grown (Xo2 HO) fun r hr _=>by
      cases a with
      |none=>simp at hr
      |some y=>simp only[Uz,Uj] at hr;exact ⟨y,rfl,hr⟩)
     have XQ:=(Xo1 H4).keep Vf (by rintro ⟨y,hy,e⟩;have:=Kv y hy;omega);refine ⟨⟨q4,b4,a5,n+1,c5,rfl,by omega,XQ,(Xo2 H4),hB,fun e=>⟨?_,Nat.succ_pos _⟩,fun e=>⟨by have:=(Xe3 HX);omega,?_⟩⟩,by simp only[nOf];omega⟩
     ·rw[(Xo1 HX),show 4-n=(4-(n+1))+1 by omega,Q4v,show acc.length=n from (Xo0 HX).len,(Xo0 HL) e]
     ·obtain ⟨e1,e2,x,R4,Z3⟩:=(Xo1 HL) e;subst e1;subst e2;obtain ⟨x',QQ,hxat⟩:=(Xe4 H2) rfl;have Vn:x'=x:=by
       have h':Q8d L M 16 q1=.ok (x',q2):=QQ;rw[R4] at h';injection h' with h';injection h' with h' _;exact h'.symm
      subst Vn;have hx4:=hxat.turn (Xo3 HL) (fun k (hk:k=w.heap.size)=>by subst hk;exact (Xo1 H1).lt);refine ⟨_,_,hst5.next (Xo1 H1).lt (fun x hx=>(Kv x hx).2) (Xo2 HO) hx4 (Xo0 HO) (Xe3 HO),?_⟩;rw[(Xo1 HX),show 4-n=(4-(n+1))+1 by omega,Q4v,show acc.length=n from (Xo0 HX).len,Z3];simp only[Nat.succ_ne_zero,false_or,(Xo1 H)]
end Go.Proofs.YtidojbkhlenahaaGreatDoor
namespace Go.Proofs.YtidojbkhlenahaaGreatDoor
open Go.RowKit WordsM
theorem Qdv {P:Program} {ops:Array Oper} {o:Oper} {a:Act} {w:World} {K:Act->World->Prop} {Q:Exit->Act->World->Prop} {E:Prop} (QA:o.guard=none) (s x:Operand) (t1 t2:TypeId) (ho:o.op=.call { callee:=.builtin .append,args:= #[s,x],argTypes:= #[t1,t2] })
 (va vx:Value) (hs:a.eval s=va) (hx:a.eval x=vx) (v:Value) (w':World) (S1:(Builtin.append_ #[t1,t2] o.type #[va,vx]).run P w=.ok v w') (h:K (a.put o.dst v) w'):if Region.wanted o (yielded ops a.tmps)=true then Oper.wp P o a w K Q else E:=by
 rw[Us (by simp[Region.wanted,QA])];unfold Oper.wp execOp;simp only[ho,resolve,invoke,builtin,Sem.run_bind,Sem.run_pure,Result.andThen_ok,List.map_toArray,Xah,List.map_nil,hs,hx,S1];exact h
def Qxv (m:Q01):Q01:=⟨!m.neg,m.exp,m.ws,m.es⟩
theorem Qu8 (m:Q01):(Qxv m).term=(-m.term.1,m.term.2):=by
 show (Q1p (!m.neg) m.exp m.ws,m.es)=(-Q1p m.neg m.exp m.ws,m.es)
 unfold Q1p;rw[Qy7,Qna]
theorem Qzf {k:Nat} {m:Q01} (h:OkM k m):OkM k (Qxv m):=by
 obtain ⟨⟨h1,h2⟩,h3⟩:=h;refine ⟨⟨h1,?_⟩,h3⟩
 show Q0a (!m.neg) m.exp m.ws
 unfold Q0a at h2⊢;rw[Up h3] at h2⊢;exact h2
theorem Qqm (ms:List Q01):(ms.map Qxv).map Q01.term=Q9l (ms.map Q01.term):=by
 unfold Q9l;rw[List.map_map,List.map_map];exact List.map_congr_left fun m _=>Qu8 m
theorem Qg2 {k:Nat} {ms:List Q01} (h:Q1o k ms):Q1o k (ms.map Qxv):=by
 obtain ⟨h1,h2,h3,h4,h5⟩:=h;refine ⟨h1,h2,by rw[UK];exact h3,fun m hm=>?_,?_⟩
 ·obtain ⟨m0,o9,rfl⟩:=To.1 hm;exact Qzf (h4 m0 o9)
 ·rw[Xbm];exact h5
def Qu9 (w:World) (ms:List Q01) (s3 s8:Value) (wx:World):Prop:=∃(i:Nat) (a:OA) (c:Nat),s3=.slice a i c/\s8=.int .i64 (i:Int)/\i<=ms.length/\Q1r w.heap.size wx a i c ((ms.take i).map Qxv)/\Bw w wx
theorem Qua {w w3 w6:World} {ms:List Q01} {i:Nat} {x:Q01} {a1 a3:OA} {l3 c3 c1 c6 g6 be oe le ce:Nat} {xs:LV} (E0:i<ms.length) (hx:ms[i]?=some x) (i6:WordsIn w3 a3 l3 c3 x.ws) (he:Q0g w (some ⟨be,oe,none⟩) le ce x.es) (t6:be<w.heap.size) (hb:Bw w w3) (X4:Q1r w.heap.size w3 a1 i c1 ((ms.take i).map Qxv))
 (hr:Q40 NoU w3 w.heap.size 98 4 a1 i c1 xs) (Y2:Q40 NoU w6 w.heap.size 98 4 (some ⟨g6,0,none⟩) (i+1) c6 (xs++[.bool (!x.neg),.int .i64 x.exp,.slice a3 l3 c3,.slice (some ⟨be,oe,none⟩) le ce]))
 (Q1:(w3.alloc (.cells #[.bool (!x.neg),.int .i64 x.exp,.slice a3 l3 c3,.slice (some ⟨be,oe,none⟩) le ce] 98)).grownBy w6 (a1.map (·.block))) (B5:a1=some ⟨g6,0,none⟩∨g6=(w3.alloc (.cells #[.bool (!x.neg),.int .i64 x.exp,.slice a3 l3 c3,.slice (some ⟨be,oe,none⟩) le ce] 98)).heap.size):
 Qu9 w ms (.slice (some ⟨g6,0,none⟩) (i+1) c6) (.int .i64 ((i:Int)+1)) w6:=by
 have F2:=hb.alloc hb.size (.cells #[.bool (!x.neg),.int .i64 x.exp,.slice a3 l3 c3,.slice (some ⟨be,oe,none⟩) le ce] 98);refine ⟨i+1,_,c6,rfl,congrArg (Value.int .i64) (by omega),E0,?_,?_⟩
 ·rw[Tc,hx,UR];exact X4.push hr (o:=(.cells #[.bool (!x.neg),.int .i64 x.exp,.slice a3 l3 c3,.slice (some ⟨be,oe,none⟩) le ce] 98)) Q1 B5 (m:=Qxv x) Y2 rfl i6 (he.step hb) (Uc t6 hb.size) (fun z hz e=>by have:=(X4.lt hz).1;omega)
 ·exact F2.trans ⟨Q1.os,Q1.tape,Q1.output,Q1.size,fun z hz=>Q1.block z (Uc hz F2.size) (fun e=>by
   cases a1 with
   |none=>simp at e
   |some q=>simp only[Uz,Uj] at e;have:=(X4.lt rfl).1;omega)⟩
theorem Qqn (a:OA) (n c:Nat) (ms:List Q01) (k:Nat) (w:World) (h:Q08 w a n c ms) (hr:Q1o k ms):
 Calls Tryz.prog 190 #[.slice a n c] w fun r w'=>∃a' c',r=.returned (.slice a' n c')/\Q08 w' a' n c' (ms.map Qxv)/\Bw w w':=by
 have G3:=h.1;have hn:n<=24:=by have:=hr.2.2.1;omega
 have X2:=hr.1;obtain ⟨i0,E2,P1,G1,K1⟩:=Q0p Q4q;have HI:=Xh4 E2 P1 G1 K1;have H:=Xh2 h hr;clear h hr E2 P1 G1 K1
 go_enter Tryz.func190,Tryz.ntmps190
 go_wp2_with fail
 go_loopw [3,8] (fun s3 s8 wr=>Qu9 w ms s3 s8 wr) (fun _ iv _=>n-(intOf iv).toNat)
 case atStart=>exact ⟨0,none,0,rfl,rfl,Ut _,Q1r.nil_ _ _,Ug _ _⟩
 case round=>
  obtain ⟨i,a1,c1,rfl,rfl,hi,Y0,C1⟩:=hrel
  by_cases E0:i<ms.length
  ·have J0:(i:Int)<(n:Int):=(by omega);obtain ⟨x,hx⟩:∃x,ms[i]?=some x:=⟨_,Ua E0⟩;obtain ⟨b0,o0,rfl,X1,Y1⟩:∃b o,a=some ⟨b,o,none⟩/\b<w.heap.size/\∀j m,ms[j]?=some m->Q4n w b (o+j*4) m:=by
    rcases (Xo0 H).2.2.2 with h0|h0
    ·rw[h0] at E0;simp at E0
    ·exact h0
   obtain ⟨aw,lw,cw,ae,le,ce,k0,k1,k2,k3,hw,he,R4,Z3⟩:=Y1 i x hx;have KJ:OkM k x:=(Xo4 H) x (Uf hx);obtain ⟨be,oe,rfl,t6⟩:∃be oe,ae=some ⟨be,oe,none⟩/\be<w.heap.size:=by
    rcases he.rd with h0|⟨bb,oo,e,E4,_⟩
    ·exfalso;have:=KJ.1.1.1;rw[h0] at this;simp at this;omega
    ·exact ⟨bb,oo,e,E4⟩
   have k0:=(C1.cell (p:=⟨b0,o0+i*4,none⟩) X1).trans k0;have k1:=(C1.cell (p:=⟨b0,o0+i*4+1,none⟩) X1).trans k1;have k2:=(C1.cell (p:=⟨b0,o0+i*4+2,none⟩) X1).trans k2;have k3:=(C1.cell (p:=⟨b0,o0+i*4+3,none⟩) X1).trans k3;have hX:=Q34.new wr (.bool x.neg) (.int .i64 x.exp) (.slice aw lw cw) (.slice (some ⟨be,oe,none⟩) le ce) 98;have K2:Bw wr (wr.alloc (.cells #[.bool x.neg,.int .i64 x.exp,.slice aw lw cw,.slice (some ⟨be,oe,none⟩) le ce] 98)):=Ba;have U7:=Q0h wr (.cells #[.bool x.neg,.int .i64 x.exp,.slice aw lw cw,.slice (some ⟨be,oe,none⟩) le ce] 98);have O0:=Below.next0 C1 K2;have Y8:Bw w (wr.alloc (.cells #[.bool x.neg,.int .i64 x.exp,.slice aw lw cw,.slice (some ⟨be,oe,none⟩) le ce] 98)).drew:=Q87 O0;have x5:=Qpl x.neg x.exp aw lw cw x.ws _ (hw.step Y8) KJ.1.2 KJ.2;obtain ⟨e0,e1,e2⟩:=hX.cc;have e3:=hX.c3;have d3:(wr.alloc (.cells #[.bool x.neg,.int .i64 x.exp,.slice aw lw cw,.slice (some ⟨be,oe,none⟩) le ce] 98)).drew.cell? ⟨wr.heap.size,3,none⟩=some (.slice (some ⟨be,oe,none⟩) le ce):=e3;have HS:=Xh12 Y0 C1 hx hw he KJ hX K2 U7 O0 x5 t6;clear Y0 C1 hx hw he KJ hX K2 U7 O0 Y8 x5 t6 Y1 R4 Z3
   go_upto_region 5 with fail
   go_region_law (first
    |(refine Q3h (by rfl) 244 #[.agg #[.bool x.neg,.int .i64 x.exp,.slice aw lw cw]] (by simp[go_sem]) ?_
      refine (Xo10 HS).mono ?_;rintro r w3 ⟨a3,l3,c3,rfl,i6,Xk⟩;refine ⟨_,rfl,?_⟩;have G0:Below (wr.alloc (.cells #[.bool x.neg,.int .i64 x.exp,.slice aw lw cw,.slice (some ⟨be,oe,none⟩) le ce] 98)).heap.size (wr.alloc (.cells #[.bool x.neg,.int .i64 x.exp,.slice aw lw cw,.slice (some ⟨be,oe,none⟩) le ce] 98)) w3:=⟨Xk.os,Xk.tape,Xk.output,Xk.size,Xk.block⟩;have m3:=((Xo6 HS).step G0 (Xo8 HS)).c3;obtain ⟨E2,P1,G1,K1⟩:=HI.out;have Qh:=Below.next0 (Xo7 HS) G0;have hb3a:=Below.next0 (Xo9 HS) G0;have X4:=(Xo0 HS).step Qh;obtain ⟨xs,hr⟩:=X4.row;have Xy:w.heap.size<=(w3.alloc (.cells #[.bool (!x.neg),.int .i64 x.exp,.slice a3 l3 c3,.slice (some ⟨be,oe,none⟩) le ce] 98)).heap.size:=by
       have:=hb3a.size;rw[Ui];omega
      obtain ⟨g6,c6,w6,x4,Y2,Q1,B5⟩:=Q0w (P:=Tryz.prog) NoU (w3.alloc (.cells #[.bool (!x.neg),.int .i64 x.exp,.slice a3 l3 c3,.slice (some ⟨be,oe,none⟩) le ce] 98)) 42 42 98 i0 _ 4 64 Tryz.underlying42 E2 P1 G1 K1 rfl Q8b w.heap.size Xy a1 i c1 xs (hr.step (Ba)) w3.heap.size 1 1 [.bool (!x.neg),.int .i64 x.exp,.slice a3 l3 c3,.slice (some ⟨be,oe,none⟩) le ce] rfl (Tx (cs:= #[.bool (!x.neg),.int .i64 x.exp,.slice a3 l3 c3,.slice (some ⟨be,oe,none⟩) le ce]) (Um _ _)) (by simp[Value.oneCell']) (by intro u hu;simp at hu;rcases hu with rfl|rfl|rfl|rfl <;> exact fun _=>by simp[nv]) (by decide) (by omega) (by decide) (by decide);have H3:=Xh8 i6 Qh hb3a X4 hr Y2 Q1 B5;clear i6 Xk G0 Qh hb3a X4 hr Y2 Q1 B5 Xy E2 P1 G1 K1)
    |(refine Qdv (by rfl) (.tmp 12) (.tmp 19) 42 42 (by rfl) _ _ (by rfl) (by rfl) _ _ x4 ?_))
   all_goals go_wp2_with fail
   all_goals exact ⟨Qua E0 (Xo2 HS) (Xo0 H3).toWordsIn (Xo4 HS) (Xe11 HS) (Xo2 H3) (Xo3 H3) (Xo4 H3) (Xo5 H3) (Xo6 H3) (Xe7 H3),by simp only[intOf];omega⟩
  ·have J0:¬((i:Int)<(n:Int)):=(by omega);have I7:i=n:=(by omega);rw[show i=ms.length by omega,Tn,show ms.length=n from G3] at Y0;have HS:=Xh2 Y0 C1;subst I7;clear Y0 C1
   go_wp2_with fail
   go_ret;exact ⟨a1,c1,rfl,(Xo0 HS).monos fun m hm=>((Qg2 (Xe1 H)).2.2.2.1 m hm).1.2,(Xe1 HS)⟩
theorem Q7t {l:List Q0b} {e:Int} (h:Q25 l=.error e):e≠0:=by
 unfold Q25 at h
 split at h
 ·injection h with h;omega
 ·split at h
  ·injection h with h;omega
  ·cases h
theorem Qc8 {a b:List Q0b} {e:Int} (h:Qi2 a b=.error e):e≠0:=by
 unfold Qi2 at h
 split at h
 ·injection h with h;omega
 ·split at h
  ·injection h with h;omega
  ·exact Q7t h
theorem Qof {p:List Q0b} {e:Int}:∀{k:Nat},Qlc p k=.error e->e≠0
 |0,h=>by rw[Qlc] at h;cases h
 |k+1,h=>by
  rw[Qlc] at h;cases hq:Qlc p k with
  |error x=>rw[hq] at h;injection h with h;subst h;exact Qof hq
  |ok q=>rw[hq] at h;exact Qc8 h
theorem Qqo {n:Nat} {p:List Q0b} {k:Nat} {e:Int} (h:Qne n p k=.error e):e≠0:=by
 cases k with
 |zero=>rw[Qne] at h;cases h
 |succ k=>exact Qof h
mutual
theorem Q5m (n:Nat):∀(x:Ex) (e:Int),Q29 n x=.error e->e≠0
 | .num none,e,h=>by rw[Q29] at h;injection h with h;omega
 | .num (some c),e,h=>by rw[Q29] at h;exact Q7t h
 | .var i,e,h=>by rw[Q29] at h;exact Q7t h
 | .sum l,e,h=>by rw[Q29] at h;exact Qdw n l none e h
 | .prod l,e,h=>by rw[Q29] at h;exact Qdx n l none e h
 | .pow b k,e,h=>by
   rw[Q29] at h;cases hb:Q29 n b with
   |error x=>rw[hb] at h;injection h with h;subst h;exact Q5m n b x hb
   |ok p=>rw[hb] at h;exact Qqo h
theorem Qdw (n:Nat):∀(l:List (Bool × Ex)) (acc:Option (List Q0b)) (e:Int),Q4z n acc l=.error e->e≠0
 |[],acc,e,h=>by rw[Q4z] at h;cases h
 |(b,t)::r,acc,e,h=>by
  rw[Q4z] at h;cases ht:Q29 n t with
  |error x=>rw[ht] at h;injection h with h;subst h;exact Q5m n t x ht
  |ok p=>
   rw[ht] at h;cases acc with
   |none=>exact Qdw n r _ e h
   |some q=>
    simp only at h;cases hq:Qvl q (if b then Q9l p else p) with
    |error x=>rw[hq] at h;injection h with h;subst h;exact Q7t hq
    |ok q'=>rw[hq] at h;exact Qdw n r _ e h
theorem Qdx (n:Nat):∀(l:List Ex) (acc:Option (List Q0b)) (e:Int),Q4s n acc l=.error e->e≠0
 |[],acc,e,h=>by rw[Q4s] at h;cases h
 |t::r,acc,e,h=>by
  rw[Q4s] at h;cases ht:Q29 n t with
  |error x=>rw[ht] at h;injection h with h;subst h;exact Q5m n t x ht
  |ok p=>
   rw[ht] at h;cases acc with
   |none=>exact Qdx n r _ e h
   |some q=>
    simp only at h;cases hq:Qi2 q p with
    |error x=>rw[hq] at h;injection h with h;subst h;exact Qc8 hq
    |ok q'=>rw[hq] at h;exact Qdx n r _ e h
end
theorem Q2w.step' {fp:Nat->Prop} {w w':World} {x:Ex} {v:Value} (h:Q2w fp w x v) (hb:Bw w w'):Q2w fp w' x v:=h.turn (Q0e.of_below hb (fun _=>False)) (fun _ h=>h.elim)
theorem Qbr.get {fp:Nat->Prop} {w:World} {a b:Nat}:∀{l:List (Bool × Ex)} {o i:Nat} {t:Bool} {x:Ex},Qbr fp w a b o l->l[i]?=some (t,x)->(∃u,w.cell? ⟨a,o+i,none⟩=some u/\Q2w fp w x u)/\w.cell? ⟨b,o+i,none⟩=some (.bool t)
 |[],_,_,_,_,_,hi=>by simp at hi
 |(t0,x0)::r,o,i,t,x,h,hi=>by
  rw[Qbr] at h;cases i with
  |zero=>
   simp only[UD,Uj,Xas] at hi;obtain ⟨rfl,rfl⟩:=hi;exact ⟨h.1,h.2.1⟩
  |succ i=>
   have:=Qbr.get (i:=i) h.2.2 (by simpa using hi);rwa[show o+1+i=o+(i+1) by omega] at this
theorem Qav.get {fp:Nat->Prop} {w:World} {a:Nat}:∀{l:List Ex} {o i:Nat} {x:Ex},Qav fp w a o l->l[i]?=some x->∃u,w.cell? ⟨a,o+i,none⟩=some u/\Q2w fp w x u
 |[],_,_,_,_,hi=>by simp at hi
 |x0::r,o,i,x,h,hi=>by
  rw[Qav] at h;cases i with
  |zero=>
   simp only[UD,Uj] at hi;subst hi;exact h.1
  |succ i=>
   have:=Qav.get (i:=i) h.2 (by simpa using hi);rwa[show o+1+i=o+(i+1) by omega] at this
theorem Q2w.face {fp:Nat->Prop} {w:World} {x:Ex} {v:Value} (h:Q2w fp w x v):∃t u,v=.iface t u:=by
 cases x with
 |num c=>
  cases c with
  |none=>rw[Q2w] at h;obtain ⟨_,_,_,_,_,rfl⟩:=h;exact ⟨_,_,rfl⟩
  |some c=>rw[Q2w] at h;obtain ⟨_,_,_,_,_,_,rfl,_⟩:=h;exact ⟨_,_,rfl⟩
 |var i=>rw[Q2w] at h;exact ⟨_,_,h⟩
 |sum l=>rw[Q2w] at h;obtain ⟨_,_,_,_,rfl,_⟩:=h;exact ⟨_,_,rfl⟩
 |prod l=>rw[Q2w] at h;obtain ⟨_,_,rfl,_⟩:=h;exact ⟨_,_,rfl⟩
 |pow b k=>rw[Q2w] at h;obtain ⟨_,rfl,_⟩:=h;exact ⟨_,_,rfl⟩
def Q96 (k:Nat) (x:Ex):Prop:=∀(v:Value) (w:World),Q2w (fun _=>False) w x v->Q1s w->Calls Tryz.prog 85 #[.agg #[.int .i64 (k:Int)],v] w (Q1h w k (Q29 k x))
end Go.Proofs.YtidojbkhlenahaaGreatDoor
