/- Part 16. No condition. -/
import Derived.Lib.Join
import Derived.Test.YtidojbkhlenahaaGreatDoorPkProblemRights15
set_option maxRecDepth 100000
set_option maxHeartbeats 16000000
namespace Go.Proofs.YtidojbkhlenahaaGreatDoor
open Go.RowKit WordsM DecM
theorem Qvr:(Tryz.prog.info? 9).map (fun i=>(i.zero,i.size,i.bytes))=some (some (.string ⟨#[]⟩),1,16):=by kernel_rfl
theorem Qc1 (t:ByteArray):∀u∈[Value.string t],u.oneCell'=true:=by
 intro u hu;rw[UC] at hu;subst hu;rfl
theorem Q6x (m:Nat):Lib.repeatL [48] m=List.replicate m (48:UInt8):=by
 induction m with
 |zero=>rfl
 |succ m ih=>rw[TX,<-ih];rfl
def rev (xs:List (LU)):LU:=xs.reverse.flatten
theorem Qnb (xs:List (LU)) (t:LU):rev (xs++[t])=t++rev xs:=by simp[rev]
theorem Qxz (xs:List (LU)) (h:∀x∈xs,1<=x.length):xs.length<=(rev xs).length:=by
 induction xs with
 |nil=>simp[rev]
 |cons x r ih=>
  have h1:=ih fun y hy=>h y (by simp[hy]);have h2:=h x (by simp);simp only[rev,List.reverse_cons,List.flatten_append,Uh,Um] at h1⊢;simp only[List.flatten_cons,List.flatten_nil,Xaf];omega
def Qfk (v u:Nat) (xs:List (LU)):Prop:=(u=0->rev xs=dec v)/\(u≠0->dec v=dec u++rev xs)/\∀x∈xs,1<=x.length
theorem Qfk.len {v u:Nat} {xs:List (LU)} (h:Qfk v u xs):xs.length<=(dec v).length/\(rev xs).length<=(dec v).length:=by
 have h1:=Qxz xs h.2.2
 by_cases h0:u=0
 ·rw[<-h.1 h0];exact ⟨h1,Uf _⟩
 ·have h2:=congrArg List.length (h.2.1 h0);rw[Uh] at h2;omega
theorem Qfk.next {v u q r:Nat} {xs:List (LU)} (h:Qfk v u xs) (hu:u≠0) (hq:u=q*10^19+r) (hr:r<10^19):Qfk v q (xs++[if q=0 then dec r else List.replicate (19-(dec r).length) 48++dec r]):=by
 have h1:=Q2z r;refine ⟨fun h0=>?_,fun h0=>?_,fun x hx=>?_⟩
 ·rw[Uu h0,Qnb,h.2.1 hu,hq,h0];simp
 ·rw[Us h0,Qnb,h.2.1 hu,hq,Qwe q (by omega) 19 r hr,Qwf 19 r (by decide) hr];simp
 ·rcases Tp.1 hx with hx|hx
  ·exact h.2.2 x hx
  ·rw[UC] at hx;subst hx
   split
   ·exact h1
   ·rw[Uh];omega
theorem Qll {w w':World} {a:OA} {n c:Nat} {ls:LN} {row:Option Nat} (h:WordsIn w a n c ls) (hg:w.grownBy w' row) (P0:∀x,a=some x->some x.block≠row):WordsIn w' a n c ls:=by
 refine ⟨h.len,h.cap,h.most,h.low,?_⟩;rcases h.rd with h0|⟨b,o,rfl,hb,hc⟩
 ·exact .inl h0
 ·have A6:=hg.block b hb (P0 _ rfl);have K3:b<w'.heap.size:=by
   have h1:w.heap[b]?=some w.heap[b]:=Ta hb;rw[<-A6] at h1;exact (Uq.1 h1).1
  exact .inr ⟨b,o,rfl,K3,fun j x hx=>(UR (a:=⟨b,o+j,none⟩) A6).trans (hc j x hx)⟩
theorem Q9u {wr w2 w5:World} {O:Obj} {aq al a3:OA} {nq cq q:Nat} (hW:WordsIn w2 aq nq cq (dig (2^64) q)) (C9:q≠0) (B6:∀x,aq=some x->wr.heap.size<=x.block) (N6:∀y,al=some y->y.block<wr.heap.size)
 (hg:(w2.alloc O).grownBy w5 (al.map (·.block))) (R1:a3.map (·.block)=al.map (·.block)∨a3.map (·.block)=some (w2.alloc O).heap.size):WordsIn w5 aq nq cq (dig (2^64) q)/\∀x y,aq=some x->a3=some y->x.block≠y.block:=by
 have E0:∀x,aq=some x->x.block<w2.heap.size:=fun x e=>by
  rcases hW.rd with h0|⟨b,o,rfl,hb,_⟩
  ·exact absurd ((Q7c (by decide)).1 h0) C9
  ·injection e with e;subst e;exact hb
 refine ⟨Qll (hW.step ((Uc _ _).alloc (Uf _) O)) hg fun x e e2=>?_,fun x y ex ey e=>?_⟩
 ·cases hal2:al with
  |none=>rw[hal2] at e2;cases e2
  |some z=>
   rw[hal2] at e2;simp only[UE,Up] at e2;have:=B6 x e;have:=N6 z hal2;omega
 ·have h1:=E0 x ex;have h2:=B6 x ex;rw[ey,UE] at R1;rcases R1 with h3|h3
  ·cases hal2:al with
   |none=>rw[hal2] at h3;cases h3
   |some z=>
    rw[hal2] at h3;simp only[UE,Up] at h3;have:=N6 z hal2;omega
  ·simp only[Up] at h3;rw[Uk] at h3;omega
theorem Qlm (a:OA) (n c:Nat) (v:Nat) (w:World) (h:WordsIn w a n c (dig (2^64) v)) (hn:n<=64) (XZ:(dec v).length<=1281) (O6:∀W,Bw w W->Lib.TabIs Tryz.prog W "internal/strconv.uint64pow10" .u64 Lib.pow10Tab):
 Calls Tryz.prog 68 #[.slice a n c] w fun e w'=>e=.returned (sv (dec v))/\Bw w w':=by
 by_cases x8:v=0
 ·have G9:n=0:=by have:=h.len;rw[x8,Q1d] at this;exact this.symm
  subst G9 x8;have V8:dec 0=[48]:=Q1t (by decide);have HD:=Ua V8;clear h V8 O6 XZ
  go_enter Tryz.func68,Tryz.ntmps68
  go_wp2_with fail
  go_ret;rw[HD.out];exact ⟨rfl,Uc _ _⟩
 ·have G9:n≠0:=fun e=>x8 ((Q7c (B:=2^64) (by decide)).1 (UH.1 (by rw[h.len,e])));have hn0I:((n:Int)==0)=false:=by rw[Uj];omega
  obtain ⟨i0,O2,E2,I2,X1⟩:=Xbq Qvr;have HI:=Xh4 O2 E2 I2 X1;have H:=Xh3 h O6 x8;clear h O6 x8 O2 E2 I2 X1
  go_enter Tryz.func68,Tryz.ntmps68
  go_wp2_with fail
  go_loopg [0,3] v (fun g wv lv wr=>∃(u:Nat) (ao:OA) (no co:Nat) (al:OA) (k cl:Nat) (xs:List (LU)),wv=.slice ao no co/\lv=.slice al k cl/\no<=64/\WordsIn wr ao no co (dig (2^64) u)/\Row wr w.heap.size 9 1 al k cl (xs.map sv)/\xs.length=k/\Qfk v u xs/\g=u/\Bw w wr/\(u≠0->∀x y,ao=some x->al=some y->x.block≠y.block))
  case atStart=>exact ⟨v,a,n,c,none,0,0,[],rfl,rfl,hn,(Xo0 H),Row.nil_ _ _ _ _,rfl,⟨fun e=>absurd e (Xe2 H),fun _=>by simp[rev],fun x hx=>by simp at hx⟩,rfl,Uc _ _,fun _ x y _ e=>by cases e⟩
  case round=>
   obtain ⟨u,ao,no,co,al,k,cl,xs,rfl,rfl,i4,hW,A1,N4,Qb,hg,hb,Yc⟩:=hrel
   by_cases hu:u=0
   ·subst hu;have hno0:no=0:=(by have:=hW.len;rw[Q1d] at this;exact this.symm);subst hno0;have Km:=Qb.1 rfl;have hk:=Qb.len;have Z6:k<=1281:=(by omega);have Kz:∀W,Bw wr W->∀i t,xs[i]?=some t->∃g,al=some ⟨g,0,none⟩/\W.cell? ⟨g,i,none⟩=some (sv t):=fun W F7 i t ht=>by
     obtain ⟨g,W8,_,M6,hc⟩:=A1.at_ (j:=i) (x:=sv t) (by rw[UK,ht];rfl);exact ⟨g,W8,(F7.cell (p:=⟨g,i,none⟩) M6).trans hc⟩
    have K0:(rev xs).length<=1281:=(by omega);have P3:Bw wr (wr.alloc (.cells #[.pointer none,.slice none 0 0] 57)):=Ba;have Kd:=Q60.new wr.heap.size wr (Uf _);have HX:=Xh6 Km Kz K0 hb P3 Kd;clear Km hk Kz K0 hb P3 Kd A1 Qb Yc hW hg;generalize wr=W1 at*
    go_wp2_with fail
    go_loopw [10] (fun iv wz=>∃j:Nat,iv=.int .i64 ((j:Int)-1)/\j<=k/\Q60 W1.heap.size W1.heap.size (rev (xs.drop j)) wz/\Bw W1 wz) (fun iv _=>(intOf iv+1).toNat)
    case atStart=>exact ⟨k,rfl,Uf _,by rw[Xac (by omega)];exact (Xe5 HX),(Xo4 HX)⟩
    case round=>
     obtain ⟨j,rfl,hj,C7,G3⟩:=hrel;cases j with
     |zero=>
      rw[Xba,(Xo0 HX)] at C7;have HB:=Xh2 C7 G3;clear C7 G3
      go_wp2_with (refine (Tryz.J0e W1.heap.size W1.heap.size _ _ (Xo0 HB) (Xe1 HB).size).mono ?_;rintro e w3 ⟨rfl,C1⟩;have M3:=Ua C1;clear C1)
      go_ret;exact ⟨rfl,Below.next0 (Xo3 HX) ((Xe1 HB).trans M3.out)⟩
     |succ j=>
      obtain ⟨t,ht⟩:∃t,xs[j]?=some t:=⟨_,Ub (by omega)⟩;obtain ⟨g,rfl,hct⟩:=(Xo1 HX) _ G3 j t ht;have X7:rev (xs.drop j)=rev (xs.drop (j+1))++t:=by
       have e1:=Ui.1 ht;rw[UB e1.1,e1.2];simp[rev]
      have hl:(rev (xs.drop (j+1))).length+t.length<=1281:=by
       have h1:xs=xs.take j++xs.drop j:=(Xbf j xs).symm;have h2:(rev (xs.drop j)).length<=(rev xs).length:=by
        have h3:rev xs=rev (xs.drop j)++rev (xs.take j):=by
         have h4:=congrArg rev h1;rw[h4];unfold rev;rw[List.reverse_append,List.flatten_append]
        rw[h3,Uh];omega
       rw[X7,Uh] at h2;have:=(Xo2 HX);omega
      have hjI:((j+1:Nat):Int)-1=(j:Int):=(by omega);have XP:(j:Int)<(k:Int):=(by omega);have HD:=Xh4 X7 C7 G3 hl;clear X7 C7 G3 hl ht;rw[hjI]
      go_wp2_with (refine (Qjj W1.heap.size W1.heap.size _ t _ (Xo1 HD) (by have:=(Xe3 HD);omega) (Xo2 HD).size).mono ?_;rintro e w3 ⟨rfl,I0,N1⟩;have X4:=Xh2 I0 N1;clear I0 N1)
      exact ⟨⟨j,rfl,by omega,by rw[(Xo0 HD)];exact .inr (Xo0 X4),(Xo2 HD).trans (Xe1 X4)⟩,by simp only[intOf];omega⟩
   ·have hno0:no≠0:=fun e=>hu ((Q7c (B:=2^64) (by decide)).1 (UH.1 (by rw[hW.len,e])));have hnoI:(0:Int)<(no:Int):=(by omega);have P3:Bw wr (wr.alloc (.cells #[.int .u64 10000000000000000000] 83)):=Ba;have VL:=Qkr ao no co (dig (2^64) u) (some ⟨wr.heap.size,0,none⟩) 1 10000000000000000000 (wr.alloc (.cells #[.int .u64 10000000000000000000] 83)) (hW.step P3) (Qgf wr 10000000000000000000 (by decide) 83) (by omega) (by decide) (by rw[Q0s (by decide)];exact hu);rw[Q0s (by decide)] at VL;obtain ⟨q,hq⟩:∃q,u / 10000000000000000000=q:=⟨_,rfl⟩;obtain ⟨r,hr⟩:∃r,u%10000000000000000000=r:=⟨_,rfl⟩;rw[hq,hr] at VL;have Wo:r<10000000000000000000:=(by rw[<-hr];exact TP _ (by decide));have Zn:r<2^64:=Nat.lt_trans Wo (by decide);have huq:u=q*10^19+r:=(by rw[<-hq,<-hr,UA];exact (TY u (10^19)).symm);have Z9:=Qb.next hu huq Wo;have hqu:q<u:=(by rw[<-hq];exact Nat.div_lt_self (by omega) (by decide));have WZ:(dig (2^64) q).length<=64:=Ul (Q1o (by decide) (Xa9 hqu)) (by rw[hW.len];exact i4);have ZY:(dec r).length<=19:=dec_len 19 r Wo (by decide);have hk:=Qb.len;have Z6:k<=1281:=(by omega);have HDV:=Ua VL;have WR:=Ua P3;have QT:=Ua hb;have HTB:=Ua (Xo1 H);have N6:∀y,al=some y->y.block<wr.heap.size:=fun y e=>by
     rcases A1.form with ⟨h0,_⟩|⟨g,cur,h0,_,hg,_⟩
     ·rw[h0] at e;cases e
     ·rw[h0] at e;injection e with e;subst e;exact hg
    have HAL:=Xh2 N6 Yc;clear N6 Yc;have HRW:=Ua (fun W (F7:Bw wr W)=>A1.call F7);have x9:=Xh5 Z9 hqu WZ hg hb;clear VL hq hr huq Z9 hqu WZ A1 hb hW hg P3 hk Qb
    by_cases C9:q=0
    ·by_cases Q4:r=0
     ·skip;have Qp:=Ua C9;have Qq:=Ua (show (0:Nat)=0 from rfl);clear C9;subst Q4;have hS:(dec 0).length<=19:=ZY;obtain ⟨t,ht⟩:∃t:LU,t=dec 0:=⟨_,rfl⟩;have S5:t.length<=40:=(by rw[ht];omega);have HT:=Ua ht
      go_wp2_with (first
       |(go_at_call_of 109 ao;refine HDV.out.mono ?_;rintro e w1 ⟨aq,nq,cq,ar,nr,cr,rfl,t9,Jr,A0,B6⟩;have VA:=Ua (fun x (e:aq=some x)=>Ul WR.out.size (B6 x e));clear B6;obtain rfl:nq=0:=by { have:=t9.len;rw[Qp.out,Q1d] at this;exact this.symm };obtain rfl:nr=0:=by { have:=Jr.len;rw[Qq.out,Q1d] at this;exact this.symm };have O0:=Xh2 t9 (Below.next0 WR.out A0);clear t9 Jr A0)
       |(refine (Qc0 0 (by omega) _ (HTB.out _ (Below.next0 QT.out (Xe1 O0)))).mono ?_;rintro e w2 ⟨rfl,D0⟩;have D1:=Xh2 ((Xo0 O0).step D0) (Below.next0 (Xe1 O0) D0);clear D0)
       |(at_builtin;refine Q0t rfl (.tmp 41) (.tmp 43) 39 rfl w _ 9 i0 _ 1 16 Tryz.underlying39 (Xo0 HI) (Xo1 HI) (Xo2 HI) (Xe3 HI) rfl (by decide) w.heap.size ((Below.next0 QT.out (Xe1 D1)).alloc (Below.next0 QT.out (Xe1 D1)).size _) ((Below.next0 QT.out (Xe1 D1)).alloc (Below.next0 QT.out (Xe1 D1)).size _).size al k cl _ rfl ((HRW.out _ (Xe1 D1)).alloc _) ⟨w2.heap.size,0,none⟩ 1 1 [sv (dec 0)] rfl rfl (Q4f w2 #[sv (dec 0)] _ _) (Qc1 _) (k+1) rfl (by omega) (by omega) ?_;intro a3 c3 w5 S8 Qa C1 J6;have HO:=Xh4 S8 C1 Qa J6;clear S8 Qa C1 J6))
      go_roundg q
      case measure=>have h1:=(Xo1 x9);have h2:=(Xo3 x9);omega
      case rel=>
       have h1:=(Xo0 x9);rw[Uu Qp.out] at h1;have Ky:0<=64:=(by have h3:=(Xo0 D1).len;have h4:=(Xo2 x9);omega);have Kt:Row w5 w.heap.size 9 1 a3 (k+1) c3 ((xs++[t]).map sv):=by
        have h5:=(Xo0 HO);rw[UZ,HT.out];exact h5
       exact ⟨q,aq,0,cq,a3,k+1,c3,xs++[t],rfl,rfl,Ky,⟨(Xo0 D1).len,(Xo0 D1).cap,(Xo0 D1).most,(Xo0 D1).low,.inl (by rw[Qp.out];rfl)⟩,Kt,by rw[Uh,N4];rfl,by rw[HT.out];exact h1,rfl,(Xo1 HO),fun h=>absurd Qp.out h⟩
     ·skip;have Qp:=Ua C9;have Qq:=Ua Q4;clear C9 Q4;have hS:(dec r).length<=19:=ZY;obtain ⟨t,ht⟩:∃t:LU,t=dec r:=⟨_,rfl⟩;have S5:t.length<=40:=(by rw[ht];omega);have HT:=Ua ht
      go_wp2_with (first
       |(go_at_call_of 109 ao;refine HDV.out.mono ?_;rintro e w1 ⟨aq,nq,cq,ar,nr,cr,rfl,t9,Jr,A0,B6⟩;have VA:=Ua (fun x (e:aq=some x)=>Ul WR.out.size (B6 x e));clear B6;obtain rfl:nq=0:=by { have:=t9.len;rw[Qp.out,Q1d] at this;exact this.symm };have C6:=Qre (d:=r) Zn Qq.out;rw[C6] at Jr;obtain rfl:nr=1:=Jr.len.symm;obtain ⟨gr,og,Vd,Z7,QI⟩:=Jr.rd.at_ (k:=0) (x:=r) rfl;rw[TD] at QI;subst Vd;have O0:=Xh2 t9 (Below.next0 WR.out A0);clear t9 Jr A0)
       |(refine (Qc0 r (by omega) _ (HTB.out _ (Below.next0 QT.out (Xe1 O0)))).mono ?_;rintro e w2 ⟨rfl,D0⟩;have D1:=Xh2 ((Xo0 O0).step D0) (Below.next0 (Xe1 O0) D0);clear D0)
       |(at_builtin;refine Q0t rfl (.tmp 41) (.tmp 43) 39 rfl w _ 9 i0 _ 1 16 Tryz.underlying39 (Xo0 HI) (Xo1 HI) (Xo2 HI) (Xe3 HI) rfl (by decide) w.heap.size ((Below.next0 QT.out (Xe1 D1)).alloc (Below.next0 QT.out (Xe1 D1)).size _) ((Below.next0 QT.out (Xe1 D1)).alloc (Below.next0 QT.out (Xe1 D1)).size _).size al k cl _ rfl ((HRW.out _ (Xe1 D1)).alloc _) ⟨w2.heap.size,0,none⟩ 1 1 [sv (dec r)] rfl rfl (Q4f w2 #[sv (dec r)] _ _) (Qc1 _) (k+1) rfl (by omega) (by omega) ?_;intro a3 c3 w5 S8 Qa C1 J6;have HO:=Xh4 S8 C1 Qa J6;clear S8 Qa C1 J6))
      go_roundg q
      case measure=>have h1:=(Xo1 x9);have h2:=(Xo3 x9);omega
      case rel=>
       have h1:=(Xo0 x9);rw[Uu Qp.out] at h1;have Ky:0<=64:=(by have h3:=(Xo0 D1).len;have h4:=(Xo2 x9);omega);have Kt:Row w5 w.heap.size 9 1 a3 (k+1) c3 ((xs++[t]).map sv):=by
        have h5:=(Xo0 HO);rw[UZ,HT.out];exact h5
       exact ⟨q,aq,0,cq,a3,k+1,c3,xs++[t],rfl,rfl,Ky,⟨(Xo0 D1).len,(Xo0 D1).cap,(Xo0 D1).most,(Xo0 D1).low,.inl (by rw[Qp.out];rfl)⟩,Kt,by rw[Uh,N4];rfl,by rw[HT.out];exact h1,rfl,(Xo1 HO),fun h=>absurd Qp.out h⟩
    ·by_cases Q4:r=0
     ·skip;have Qp:=Ua C9;have Qq:=Ua (show (0:Nat)=0 from rfl);clear C9;subst Q4;obtain ⟨m,hm⟩:∃m,19-(dec 0).length=m:=⟨_,rfl⟩;have hmI:(19:Int)-((dec 0).length:Int)=(m:Int):=(by omega);have hm19:m<=19:=(by omega);have hrpl:(Lib.repeatL [48] m).length=m:=(by rw[Q6x,List.length_replicate]);have YZ:(Lib.decDigits _).length<=19:=ZY;have hrp:=fun W=>Tryz.J2b ⟨#[48]⟩ m W (by omega) (by show 1*m<=_;omega);obtain ⟨t,ht⟩:∃t:LU,t=List.replicate m 48++dec 0:=⟨_,rfl⟩;have S5:t.length<=40:=(by rw[ht];simp;omega);have HT:=Ua ht
      go_wp2_with (first
       |(go_at_call_of 109 ao;refine HDV.out.mono ?_;rintro e w1 ⟨aq,nq,cq,ar,nr,cr,rfl,t9,Jr,A0,B6⟩;have VA:=Ua (fun x (e:aq=some x)=>Ul WR.out.size (B6 x e));clear B6;have hnqI:(0:Int)<(nq:Int):=by { have h9:=t9.len;have h8:nq≠0:=fun e=>Qp.out ((Q7c (B:=2^64) (by decide)).1 (UH.1 (by rw[h9,e])));omega };obtain rfl:nr=0:=by { have:=Jr.len;rw[Qq.out,Q1d] at this;exact this.symm };have O0:=Xh2 t9 (Below.next0 WR.out A0);clear t9 Jr A0)
       |(refine (Qc0 0 (by omega) _ (HTB.out _ (Below.next0 QT.out (Xe1 O0)))).mono ?_;rintro e w2 ⟨rfl,D0⟩;have D1:=Xh2 ((Xo0 O0).step D0) (Below.next0 (Xe1 O0) D0);clear D0)
       |(go_at_call_of 111 (Value.string ⟨#[48]⟩);refine (hrp _).mono ?_;rintro e w3 ⟨rfl,I0⟩;have A3:=Xh2 ((Xo0 D1).step I0) (Below.next0 (Xe1 D1) I0);clear I0)
       |(at_builtin;refine Q0t rfl (.tmp 41) (.tmp 43) 39 rfl w _ 9 i0 _ 1 16 Tryz.underlying39 (Xo0 HI) (Xo1 HI) (Xo2 HI) (Xe3 HI) rfl (by decide) w.heap.size ((Below.next0 QT.out (Xe1 A3)).alloc (Below.next0 QT.out (Xe1 A3)).size _) ((Below.next0 QT.out (Xe1 A3)).alloc (Below.next0 QT.out (Xe1 A3)).size _).size al k cl _ rfl ((HRW.out _ (Xe1 A3)).alloc _) ⟨w3.heap.size,0,none⟩ 1 1 [Value.string (⟨(Lib.repeatL [48] m).toArray⟩++⟨(dec 0).toArray⟩)] rfl rfl (Q4f w3 #[Value.string (⟨(Lib.repeatL [48] m).toArray⟩++⟨(dec 0).toArray⟩)] _ _) (Qc1 _) (k+1) rfl (by omega) (by omega) ?_;intro a3 c3 w5 S8 Qa C1 J6;have HO:=Xh4 S8 C1 Qa J6;clear S8 Qa C1 J6))
      go_roundg q
      case measure=>have h1:=(Xo1 x9);have h2:=(Xo3 x9);omega
      case rel=>
       have h1:=(Xo0 x9);rw[Us Qp.out,hm] at h1;have Ky:nq<=64:=(by have h3:=(Xo0 A3).len;have h4:=(Xo2 x9);omega);have Kt:Row w5 w.heap.size 9 1 a3 (k+1) c3 ((xs++[t]).map sv):=by
        have h5:=(Xo0 HO);rw[UZ,HT.out];rw[Q6x] at h5;have h6:∀(l r:LU),Value.string ((⟨l.toArray⟩:ByteArray)++⟨r.toArray⟩)=sv (l++r):=fun l r=>congrArg Value.string (ByteArray.ext (by simp[UJ]));rw[h6] at h5;exact h5
       exact ⟨q,aq,nq,cq,a3,k+1,c3,xs++[t],rfl,rfl,Ky,(Q9u (Xo0 A3) Qp.out VA.out (Xo0 HAL) (Xo2 HO) (Xe3 HO)).1,Kt,by rw[Uh,N4];rfl,by rw[HT.out];exact h1,rfl,(Xo1 HO),fun _=>(Q9u (Xo0 A3) Qp.out VA.out (Xo0 HAL) (Xo2 HO) (Xe3 HO)).2⟩
     ·skip;have Qp:=Ua C9;have Qq:=Ua Q4;clear C9 Q4;obtain ⟨m,hm⟩:∃m,19-(dec r).length=m:=⟨_,rfl⟩;have hmI:(19:Int)-((dec r).length:Int)=(m:Int):=(by omega);have hm19:m<=19:=(by omega);have hrpl:(Lib.repeatL [48] m).length=m:=(by rw[Q6x,List.length_replicate]);have YZ:(Lib.decDigits _).length<=19:=ZY;have hrp:=fun W=>Tryz.J2b ⟨#[48]⟩ m W (by omega) (by show 1*m<=_;omega);obtain ⟨t,ht⟩:∃t:LU,t=List.replicate m 48++dec r:=⟨_,rfl⟩;have S5:t.length<=40:=(by rw[ht];simp;omega);have HT:=Ua ht
      go_wp2_with (first
       |(go_at_call_of 109 ao;refine HDV.out.mono ?_;rintro e w1 ⟨aq,nq,cq,ar,nr,cr,rfl,t9,Jr,A0,B6⟩;have VA:=Ua (fun x (e:aq=some x)=>Ul WR.out.size (B6 x e));clear B6;have hnqI:(0:Int)<(nq:Int):=by { have h9:=t9.len;have h8:nq≠0:=fun e=>Qp.out ((Q7c (B:=2^64) (by decide)).1 (UH.1 (by rw[h9,e])));omega };have C6:=Qre (d:=r) Zn Qq.out;rw[C6] at Jr;obtain rfl:nr=1:=Jr.len.symm;obtain ⟨gr,og,Vd,Z7,QI⟩:=Jr.rd.at_ (k:=0) (x:=r) rfl;rw[TD] at QI;subst Vd;have O0:=Xh2 t9 (Below.next0 WR.out A0);clear t9 Jr A0)
       |(refine (Qc0 r (by omega) _ (HTB.out _ (Below.next0 QT.out (Xe1 O0)))).mono ?_;rintro e w2 ⟨rfl,D0⟩;have D1:=Xh2 ((Xo0 O0).step D0) (Below.next0 (Xe1 O0) D0);clear D0)
       |(go_at_call_of 111 (Value.string ⟨#[48]⟩);refine (hrp _).mono ?_;rintro e w3 ⟨rfl,I0⟩;have A3:=Xh2 ((Xo0 D1).step I0) (Below.next0 (Xe1 D1) I0);clear I0)
       |(at_builtin;refine Q0t rfl (.tmp 41) (.tmp 43) 39 rfl w _ 9 i0 _ 1 16 Tryz.underlying39 (Xo0 HI) (Xo1 HI) (Xo2 HI) (Xe3 HI) rfl (by decide) w.heap.size ((Below.next0 QT.out (Xe1 A3)).alloc (Below.next0 QT.out (Xe1 A3)).size _) ((Below.next0 QT.out (Xe1 A3)).alloc (Below.next0 QT.out (Xe1 A3)).size _).size al k cl _ rfl ((HRW.out _ (Xe1 A3)).alloc _) ⟨w3.heap.size,0,none⟩ 1 1 [Value.string (⟨(Lib.repeatL [48] m).toArray⟩++⟨(dec r).toArray⟩)] rfl rfl (Q4f w3 #[Value.string (⟨(Lib.repeatL [48] m).toArray⟩++⟨(dec r).toArray⟩)] _ _) (Qc1 _) (k+1) rfl (by omega) (by omega) ?_;intro a3 c3 w5 S8 Qa C1 J6;have HO:=Xh4 S8 C1 Qa J6;clear S8 Qa C1 J6))
      go_roundg q
      case measure=>have h1:=(Xo1 x9);have h2:=(Xo3 x9);omega
      case rel=>
       have h1:=(Xo0 x9);rw[Us Qp.out,hm] at h1;have Ky:nq<=64:=(by have h3:=(Xo0 A3).len;have h4:=(Xo2 x9);omega);have Kt:Row w5 w.heap.size 9 1 a3 (k+1) c3 ((xs++[t]).map sv):=by
        have h5:=(Xo0 HO);rw[UZ,HT.out];rw[Q6x] at h5;have h6:∀(l r:LU),Value.string ((⟨l.toArray⟩:ByteArray)++⟨r.toArray⟩)=sv (l++r):=fun l r=>congrArg Value.string (ByteArray.ext (by simp[UJ]));rw[h6] at h5;exact h5
       exact ⟨q,aq,nq,cq,a3,k+1,c3,xs++[t],rfl,rfl,Ky,(Q9u (Xo0 A3) Qp.out VA.out (Xo0 HAL) (Xo2 HO) (Xe3 HO)).1,Kt,by rw[Uh,N4];rfl,by rw[HT.out];exact h1,rfl,(Xo1 HO),fun _=>(Q9u (Xo0 A3) Qp.out VA.out (Xo0 HAL) (Xo2 HO) (Xe3 HO)).2⟩
theorem Qsx {w:World} {a:OA} {n c:Nat} {ls:LN} {neg:Bool} {exp:Int} (h:WordsIn w a n c ls) (hn:Q0a neg exp ls):ls=dig (2^64) (val (2^64) ls):=by
 have h1:trimL ls=ls:=by
  by_cases h0:ls=[]
  ·subst h0;rfl
  ·unfold Q0a at hn;rw[Us h0] at hn;have h2:=Q3d ls;rw[hn.1,Ti] at h2;exact h2.symm
 have h3:=Q1m (B:=2^64) (by decide) h.low;rw[h1] at h3;exact h3
theorem Qgx (neg:Bool) (exp:Int) (a:OA) (n c:Nat) (ls:LN) (w:World) (h:WordsIn w a n c ls) (he: -9223372036854775808<=exp) (D5:exp<=9223372036854775807) (O6:∀W,Bw w W->Lib.TabIs Tryz.prog W "internal/strconv.uint64pow10" .u64 Lib.pow10Tab):
 Calls Tryz.prog 38 #[.agg #[.bool neg,.int .i64 exp,.slice a n c]] w fun e w'=>e=.returned (sv (Q23 neg exp ls))/\Bw w w':=by
 have R2:=Ul h.cap h.most;have Z2:Bw w (w.alloc (.cells #[.bool neg,.int .i64 exp,.slice a n c] 26)):=Ba;have hN:=Q03.new w (.bool neg) (.int .i64 exp) (.slice a n c) 26;have J3:=Q0p w (.cells #[.bool neg,.int .i64 exp,.slice a n c] 26);have hr:=Q0y neg exp a n c ls _ (h.step Z2) he D5 R2
 by_cases S2:Q0a neg exp ls
 ·have K6:Q23 neg exp ls=Q21 neg (val (2^64) ls) exp:=Uu S2;rw[K6];have d6:=S2.exp;have Vb:n<=64:=by rw[<-h.len];exact d6.2.2
  rw[UT S2] at hr;have Vx:=Qia h Vb;have Zu:=Qsx h S2;have hp:=fun W (hb:Bw w W)=>Qlm a n c (val (2^64) ls) W (by rw[<-Zu];exact h.step hb) Vb Vx (fun V hV=>O6 V (Below.next0 hb hV));generalize val (2^64) ls=v at*;have HR:=Xh5 hr hp hN Z2 O6;clear hr hp K6 S2 h hN Z2 Zu O6
  by_cases h0:exp=0
  ·subst h0;cases neg
   all_goals
    go_enter Tryz.func38,Tryz.ntmps38
    go_wp2_with (first
     |(go_at_call_of 68 a;refine ((Xo1 HR) _ O0.out).mono ?_;rintro e w3 ⟨rfl,I0⟩;have K1:=Below.next0 Qq.out I0;have hQ:=(Xo2 HR).step K1 J3;have JD:=hQ.c0;have W8:=hQ.c1;have A3:=Ua K1;clear I0 K1 hQ)
     |(refine (Xo0 HR).mono ?_;rintro e w1 ⟨rfl,A0⟩;have hQ:=(Xo2 HR).step A0 J3;have M6:=hQ.c2;have O0:=Ua (Below.next0 (Xo3 HR) A0);have Qq:=Ua A0;clear A0 hQ))
    go_ret;refine ⟨?_,Below.next0 (Xo3 HR) A3.out⟩;refine congrArg Ending.returned (congrArg Value.string (ByteArray.ext ?_));simp[Q21,Q9y]
  ·obtain ⟨m,hm⟩:∃m:Nat,exp.natAbs=m:=⟨_,rfl⟩;have C8:0<m:=(by omega);have ZW:m<=65536:=(by omega);have Jg:=dec_len 5 m (by omega) (by decide);have hml':(Lib.decDigits m).length<=5:=Jg;have h0I:((exp != 0):Bool)=true:=by rw[bne_iff_ne];exact h0
   by_cases X5:exp<0
   ·skip;have O8:Lib.itoa exp=45::dec m:=(by { rw[show exp= -(m:Int) by omega];exact Lib.itoa_neg m C8 });have hitl:(Lib.itoa exp).length<=6:=(by { rw[O8];simp;omega });have HIT:=Xh2 O8 hm;clear O8 hm d6;cases neg
    all_goals
     go_enter Tryz.func38,Tryz.ntmps38
     go_wp2_with (first
      |(go_at_call_of 68 a;refine ((Xo1 HR) _ O0.out).mono ?_;rintro e w3 ⟨rfl,I0⟩;have K1:=Below.next0 Qq.out I0;have hQ:=(Xo2 HR).step K1 J3;have JD:=hQ.c0;have W8:=hQ.c1;have A3:=Ua K1;clear I0 K1 hQ)
      |(go_at_call_of 69 exp;refine (Tryz.J1p exp he D5 _ ((Xe4 HR) _ (Below.next0 (Xo3 HR) A3.out))).mono ?_;rintro e w4 ⟨rfl,k4,os4,rfl⟩;have X4:=Ua (Below.next0 A3.out (below_grow k4 os4)))
      |(refine (Xo0 HR).mono ?_;rintro e w1 ⟨rfl,A0⟩;have hQ:=(Xo2 HR).step A0 J3;have M6:=hQ.c2;have O0:=Ua (Below.next0 (Xo3 HR) A0);have Qq:=Ua A0;clear A0 hQ))
     go_ret;refine ⟨?_,Below.next0 (Xo3 HR) X4.out⟩;refine congrArg Ending.returned (congrArg Value.string (ByteArray.ext ?_));simp[UJ,Q21,Q9y,h0,X5,(Xo0 HIT),(Xe1 HIT)]
   ·skip;have O8:Lib.itoa exp=dec m:=(by { rw[show exp=(m:Int) by omega];exact Lib.itoa_nonneg m });have hitl:(Lib.itoa exp).length<=6:=(by { rw[O8];exact Ul Jg (by decide) });have HIT:=Xh2 O8 hm;clear O8 hm d6;cases neg
    all_goals
     go_enter Tryz.func38,Tryz.ntmps38
     go_wp2_with (first
      |(go_at_call_of 68 a;refine ((Xo1 HR) _ O0.out).mono ?_;rintro e w3 ⟨rfl,I0⟩;have K1:=Below.next0 Qq.out I0;have hQ:=(Xo2 HR).step K1 J3;have JD:=hQ.c0;have W8:=hQ.c1;have A3:=Ua K1;clear I0 K1 hQ)
      |(go_at_call_of 69 exp;refine (Tryz.J1p exp he D5 _ ((Xe4 HR) _ (Below.next0 (Xo3 HR) A3.out))).mono ?_;rintro e w4 ⟨rfl,k4,os4,rfl⟩;have X4:=Ua (Below.next0 A3.out (below_grow k4 os4)))
      |(refine (Xo0 HR).mono ?_;rintro e w1 ⟨rfl,A0⟩;have hQ:=(Xo2 HR).step A0 J3;have M6:=hQ.c2;have O0:=Ua (Below.next0 (Xo3 HR) A0);have Qq:=Ua A0;clear A0 hQ))
     go_ret;refine ⟨?_,Below.next0 (Xo3 HR) X4.out⟩;refine congrArg Ending.returned (congrArg Value.string (ByteArray.ext ?_));simp[UJ,Q21,Q9y,h0,X5,(Xo0 HIT),(Xe1 HIT)]
 ·have K6:Q23 neg exp ls=[]:=Us S2;rw[K6];rw[UX S2] at hr;have HR:=Xh3 hr hN Z2;clear hr K6 S2 h hN Z2 O6
  go_enter Tryz.func38,Tryz.ntmps38
  go_wp2_with (refine (Xo0 HR).mono ?_;rintro e w1 ⟨rfl,A0⟩;have O0:=Ua (Below.next0 (Xe2 HR) A0);clear A0)
  go_ret;exact ⟨rfl,O0.out⟩
theorem Q8u:(Tryz.prog.info? 9).map (fun i=>(i.zero,i.size,i.bytes))=some (some (.string ⟨#[]⟩),1,16):=by kernel_rfl
def Qbh (w:World):Prop:=∀W,Bw w W->Lib.TabIs Tryz.prog W "internal/strconv.uint64pow10" .u64 Lib.pow10Tab
theorem Qbh.step {w w':World} (h:Qbh w) (hb:Bw w w'):Qbh w':=fun W hW=>h W (Below.next0 hb hW)
theorem Qjk:∀(E F:List Int) (i:Nat),Q11 i (E++F)=Q11 i E++Q11 (i+E.length) F
 |[],F,i=>by simp[Q11]
 |k::r,F,i=>by
  rw[To,Q11,Q11,Qjk r F (i+1),UN,Um];rw[show i+1+r.length=i+(r.length+1) by omega]
theorem Qfl {E:List Int} {i:Nat} {k:Int} (h:E[i]?=some k):Q11 0 (E.take (i+1))=Q11 0 (E.take i)++Q9z i k:=by
 have E0:=(Ui.1 h).1;rw[Tr,h,Qjk]
 congr 1
 show Q11 (0+(E.take i).length) [k]=_
 rw[UW,Xa0 (by omega),UV,Q11,Q11,Xaf]
theorem Qao:∀(l:List (LU)),Lib.join l [42]=Q2k l
 |[]=>rfl
 |[x]=>by rw[Lib.join_one];rfl
 |x::y::r=>by
  rw[Lib.join_cons,Q2k,<-Qao (y::r),Lib.join_cons];simp[Lib.joinTail]
def Qq1 (w:World) (B:Nat) (a:OA) (n c:Nat) (ts:List (LU)):Prop:=Row w B 9 1 a n c (ts.map sv)
def Qy0 (w:World) (E:List Int) (s3 s10:Value) (wx:World):Prop:=∃(i:Nat) (a:OA) (n c:Nat),s3=.slice a n c/\s10=.int .i64 (i:Int)/\i<=E.length/\n<=i/\Qq1 wx w.heap.size a n c (Q11 0 (E.take i))/\Bw w wx
theorem Qfm (ty:TypeId) (w0 w:World) (hb:Bw w0 w) (a:OA) (n c:Nat) (ts:List (LU)) (hr:Qq1 w w0.heap.size a n c ts) (t:LU) (hn:n<=1000) (v:Value) (hv:v=sv t):
 ∃a' c' w',(Builtin.append_ #[39,39] ty #[.slice a n c,.slice (some ⟨w.heap.size,0,none⟩) 1 1]).run Tryz.prog (w.alloc (.cells #[v] 9))=.ok (.slice a' (n+1) c') w'/\Qq1 w' w0.heap.size a' (n+1) c' (ts++[t])/\Bw w0 w':=by
 subst hv;obtain ⟨i0,O2,E2,I2,X1⟩:=Q1c Q8u;have D0:=hb.alloc hb.size (.cells #[sv t] 9);obtain ⟨a',c',w',Q1,A1,Z7,N0,_⟩:=Q4a w0 (w.alloc (.cells #[sv t] 9)) ty 39 9 i0 _ 1 16 Tryz.underlying39 O2 E2 I2 X1 rfl (by decide) w0.heap.size D0 D0.size a n c _ (hr.alloc _) ⟨w.heap.size,0,none⟩ 1 1 [sv t] rfl (TR (cs:= #[sv t]) (Uo _ _)) (by simp[Value.oneCell',sv]) (n+1) rfl (by omega) (by omega);exact ⟨a',c',w',Q1,by unfold Qq1;rw[UZ];exact A1,N0⟩
theorem Qfn {v:Nat} {e:Int} (hv:v<(2^64)^64) (h1: -65536<=e) (h2:e<=65536):(Q21 false v e).length<=1400:=by
 have hd:=DecM.dec_len 1300 v (Ue hv Qcl) (by decide);have he:=DecM.dec_len 6 e.natAbs (by omega) (by decide);unfold Q21 Q9y;rw[Us (by decide),TC,Uh]
 split
 ·simp;omega
 ·rw[Um]
  split
  ·rw[Um];omega
  ·omega
theorem Qpe {i:Nat} {k:Int} (hi:i<9) (h8:k<=8):∀t∈Q9z i k,t.length<=4:=by
 intro t ht;unfold Q9z at ht
 split at ht
 ·rw[UC] at ht;subst ht;rw[Q1t (by omega)];simp
 ·split at ht
  ·rw[UC] at ht;subst ht;rw[Q1t (by omega),Q1t (by omega)];simp
  ·cases ht
theorem Qpf (i:Nat) (k:Int):(Q9z i k).length<=1:=by
 unfold Q9z
 split
 ·simp
 ·split <;> simp
theorem Q6y:∀(E:List Int) (i:Nat),i+E.length<=9->(∀x∈E,x<=8)->(∀t∈Q11 i E,t.length<=4)/\(Q11 i E).length<=E.length
 |[],i,_,_=>⟨(fun t h=>by cases h),Uf _⟩
 |k::r,i,hi,h=>by
  rw[Um] at hi;obtain ⟨h1,h2⟩:=Q6y r (i+1) (by omega) (fun x hx=>h x (by simp[hx]));rw[Q11];refine ⟨fun t ht=>?_,?_⟩
  ·rcases Tp.1 ht with h3|h3
   ·exact Qpe (by omega) (h k (by simp)) t h3
   ·exact h1 t h3
  ·rw[Uh,Um];have:=Qpf i k;omega
theorem Q9v {N:Nat}:∀(ts:List (LU)),(∀t∈ts,t.length<=N)->(Q2k ts).length<=ts.length*(N+1)
 |[],_=>by simp[Q2k]
 |[x],h=>by
  have:=h x (by simp);simp only[Q2k,Um,UP];omega
 |x::y::r,h=>by
  have h1:=h x (by simp);have h2:=Q9v (y::r) (fun t ht=>h t (by simp[ht]));rw[Q2k,Uh,Um];rw[Um,Tl];omega
theorem Qdp (ty:TypeId) (w0 w:World) (hb:Bw w0 w) (a:OA) (n c:Nat) (ts:List (LU)) (hr:Qq1 w w0.heap.size a n c ts) (B:Nat) (b:OA) (m d:Nat) (us:List (LU)) (hs:Qq1 w B b m d us) (hn:n+m<=1000):
 ∃a' c' w',(Builtin.append_ #[39,39] ty #[.slice a n c,.slice b m d]).run Tryz.prog w=.ok (.slice a' (n+m) c') w'/\Qq1 w' w0.heap.size a' (n+m) c' (ts++us)/\Bw w0 w':=by
 obtain ⟨i0,O2,E2,I2,X1⟩:=Q1c Q8u;rcases hs.form with ⟨rfl,rfl,rfl,hu⟩|⟨g,cur,rfl,_⟩
 ·have hun:us=[]:=List.map_eq_nil_iff.1 hu;subst hun;exact ⟨a,c,w,Qdh w _ ty _ i0 Tryz.underlying39 O2 a none n c 0 hr.cap.1,by simpa using hr,hb⟩
 ·have G1:∀j u,(us.map sv)[j]?=some u->w.cell? ((⟨g,0,none⟩:Addr).add j)=some u:=fun j u hj=>by
   obtain ⟨g',e,_,_,h⟩:=hs.at_ hj;injection e with e;injection e with e;subst e;rw[Addr.add_lit,UV];exact h
  obtain ⟨a',c',w',Q1,A1,Z7,N0,_⟩:=Q4a w0 w ty 39 9 i0 _ 1 16 Tryz.underlying39 O2 E2 I2 X1 rfl (by decide) w0.heap.size hb hb.size a n c _ hr ⟨g,0,none⟩ m d (us.map sv) hs.len G1 (by intro u hu;obtain ⟨t,_,rfl⟩:=Tx.1 hu;rfl) (n+m) rfl (by omega) (by omega);exact ⟨a',c',w',Q1,by unfold Qq1;rw[UZ];exact A1,N0⟩
theorem Qdq {w:World} {B:Nat} {a:OA} {n c:Nat} {ts:List (LU)} (h:Qq1 w B a n c ts) (hn:n<=1000) (ht:∀t∈ts,t.length<=1400):
 Calls Tryz.prog 36 #[.slice a n c,.string ⟨#[42]⟩] w fun e w'=>e=.returned (sv (Q2k ts))/\Bw w w':=by
 have K0:ts.length=n:=by have:=h.len;simpa using this
 rcases h.form with ⟨rfl,rfl,rfl,hu⟩|⟨g,cur,rfl,_,hg,_⟩
 ·have hun:ts=[]:=List.map_eq_nil_iff.1 hu;subst hun;refine (Tryz.J0i none 0 ⟨#[42]⟩ w).mono ?_;rintro e w' ⟨rfl,rfl⟩;exact ⟨rfl,Uc _ _⟩
 ·have hmap:(ts.map fun t=>(⟨t.toArray⟩:ByteArray)).map (·.data.toList)=ts:=by
   rw[Xbs];exact (List.map_congr_left fun t _=>by simp).trans (List.map_id ts)
  have hj:=Q9v ts ht;have U3:=Tryz.J0j g 0 c (ts.map fun t=>(⟨t.toArray⟩:ByteArray)) ⟨#[42]⟩ w (fun j x hx=>by
   rw[UK] at hx;obtain ⟨t,I3,rfl⟩:=Option.map_eq_some_iff.1 hx;obtain ⟨g',e,_,_,h2⟩:=h.at_ (j:=j) (x:=sv t) (by rw[UK,I3];rfl);injection e with e;injection e with e;subst e;rw[UV];exact h2) hg (by rw[UF];omega) (by rw[UF,K0];exact h.cap.1) (by
   rw[hmap]
   show (Lib.join ts [42]).length<=_
   rw[Qao];have:ts.length*1401<=1000*1401:=UY _ (by omega);omega)
  rw[hmap,UF,K0] at U3;refine U3.mono ?_;rintro e w' ⟨rfl,hb⟩;refine ⟨?_,hb⟩
  show Ending.returned (.string ⟨(Lib.join ts [42]).toArray⟩)=_
  rw[Qao]
theorem Qdr {k:Nat} {m:Q00} (h:OkM k m) (hl:Low (2^64) m.ws):Qay m.term.1=Q1r false m.exp m.ws/\dyT (Qay m.term.1)=Q23 false m.exp m.ws/\Q0a false m.exp m.ws/\(Q23 false m.exp m.ws).length<=1400:=by
 obtain ⟨⟨h1,h2⟩,h3⟩:=h;rcases Q1a h2 hl with ⟨h4,_⟩|⟨_,ho,_,hv,g1,g2⟩
 ·exact absurd h4 h3
 have h5:Q0a false m.exp m.ws:=by
  unfold Q0a at h2⊢;rw[Us h3] at h2⊢;exact h2
 have ha:Qay m.term.1=Q1r false m.exp m.ws:=Qg6 ho;refine ⟨ha,?_,h5,?_⟩
 ·rw[ha,show Q23 false m.exp m.ws=Q21 false (val (2^64) m.ws) m.exp from Uu h5];exact Qck ho
 ·rw[show Q23 false m.exp m.ws=Q21 false (val (2^64) m.ws) m.exp from Uu h5];exact Qfn hv g1 g2
theorem Qnc {e e':Int} {n':Bool} {L K:LN} (h1:Q0a false e L) (l1:Low (2^64) L) (h2:Q0a n' e' K) (l2:Low (2^64) K) (hv:Q1r n' e' K=dy 1 0):decide (false=n'/\e=e'/\L=K)=decide (Q1r false e L=1):=by
 refine decide_eq_decide.2 ⟨fun ⟨a,b,c⟩=>?_,fun h=>?_⟩
 ·subst a;subst b;subst c;rw[hv];rfl
 ·exact Qkd h1 l1 h2 l2 (h.trans hv.symm)
theorem Qjl [LT ZK] (k:Nat) (m:Q00) (a:OA) (l c:Nat) (b:OA) (n d:Nat) (w:World) (hw:WordsIn w a l c m.ws) (he:Q0q w b n d m.es) (O1:OkM k m) (R5:k<=4) (hT:Q1s w) (hP:Qbh w):
 Calls Tryz.prog 71 #[.agg #[.bool m.neg,.int .i64 m.exp,.slice a l c,.slice b n d]] w fun r w'=>r=.returned (sv (Q1n m.term))/\Bw w w':=by
 have hX:=Q32.new w (.bool m.neg) (.int .i64 m.exp) (.slice a l c) (.slice b n d) 98;have K1:Bw w (w.alloc (.cells #[.bool m.neg,.int .i64 m.exp,.slice a l c,.slice b n d] 98)):=Ba;have K5:=Q0p w (.cells #[.bool m.neg,.int .i64 m.exp,.slice a l c,.slice b n d] 98);have K0:=he.len;have KX:m.es.length<=4:=by have:=O1.1.1.1;omega
 have C4:=Q27 O1.1.1;have J4:=he.cap;have Vy:=he.most;obtain ⟨e0,e1,e2⟩:=hX.cc;have e3:=hX.c3;have H:=Xh9 hw he O1 hT hP hX K1 K5 C4;clear hw he O1 hT hP hX K1 K5 C4
 go_enter Tryz.func71,Tryz.ntmps71
 go_wp2_with fail
 generalize I1:w.alloc (.cells #[.bool m.neg,.int .i64 m.exp,.slice a l c,.slice b n d] 98)=W1 at e0 e1 e2 e3 H⊢;clear I1
 go_loopw [3,10] (fun s3 s10 wr=>Qy0 W1 m.es s3 s10 wr) (fun _ iv _=>n-(intOf iv).toNat)
 case atStart=>exact ⟨0,none,0,0,rfl,rfl,Ut _,Uf _,Row.nil_ _ _ _ _,Uc _ _⟩
 case round=>
  obtain ⟨i,a3,n3,c3,rfl,rfl,hi,hn3,JA,M0⟩:=hrel
  by_cases E0:i<m.es.length
  ·have F0:(i:Int)<(n:Int):=(by omega);obtain ⟨x,hx⟩:∃x,m.es[i]?=some x:=⟨_,Ub E0⟩;obtain ⟨b0,o0,E5,Z0,Y3⟩:=(((Xo1 H).step (Xo6 H)).step M0).rd.at_ hx;subst E5;obtain ⟨O4,hx8⟩:=(Xe8 H) x (Ug hx);have F9:=Qfl hx;have O8:=Tryz.J1m (i+1) (by omega) wr;rw[show ((i+1:Nat):Int)=(i:Int)+1 by omega] at O8;obtain ⟨q,hq⟩:∃q,Lib.decDigits (i+1)=[q]:=⟨_,Q1t (by omega)⟩;rw[hq] at O8;have Qt:wrap64 ((i:Int)+1)=(i:Int)+1:=(by unfold wrap64;omega);have HS:=Xh6 JA M0 F9 O8 hq hx;clear JA M0 F9 O8 hq hx
   by_cases h1:x=1
   ·subst h1;obtain ⟨a5,c5,w5,Kc,JR,C1⟩:=Qfm 39 W1 wr (Xo1 HS) a3 n3 c3 _ (Xo0 HS) [120,q] (by omega) (.string ⟨#[120,q]⟩) rfl;have H5:=Xh2 JR C1;clear JR C1
    go_wp2_with (first|(at_builtin;refine Q0j rfl (.tmp 18) (.tmp 23) 39 39 rfl _ _ rfl rfl _ _ Kc ?_)|(refine (Xo3 HS).mono ?_;rintro r w4 ⟨rfl,rfl⟩))
    refine ⟨⟨i+1,a5,n3+1,c5,rfl,congrArg (Value.int .i64) (by omega),E0,by omega,?_,(Xe1 H5)⟩,by simp only[intOf];omega⟩;rw[(Xo2 HS),show Q9z i 1=[[120,q]] by rw[Q9z,Uu rfl,show dec (i+1)=[q] from (Xo4 HS)]];exact (Xo0 H5)
   ·have h1':(x==1)=false:=beq_eq_false_iff_ne.2 h1
    by_cases h2:1<x
    ·obtain ⟨K,hK⟩:∃K:Nat,x=(K:Int):=⟨x.toNat,by omega⟩;subst hK;have ZN:=Tryz.J1m K (by omega) wr;obtain ⟨q2,J5⟩:∃q2,Lib.decDigits K=[q2]:=⟨_,Q1t (by omega)⟩;rw[J5] at ZN;obtain ⟨a5,c5,w5,Kc,JR,C1⟩:=Qfm 39 W1 wr (Xo1 HS) a3 n3 c3 _ (Xo0 HS) [120,q,94,q2] (by omega) (.string ⟨#[120,q,94,q2]⟩) rfl;have h1n:¬K=1:=(by omega);have h2n:1<K:=(by omega);have H5:=Xh6 JR C1 ZN J5 h1n h2n;clear JR C1 ZN J5 h1n h2n
     go_wp2_with (first|(at_builtin;refine Q0j rfl (.tmp 28) (.tmp 37) 39 39 rfl _ _ rfl rfl _ _ Kc ?_)|(go_at_call_of 37 (Value.int .i64 (K:Int));refine (Xo2 H5).mono ?_;rintro r w6 ⟨rfl,rfl⟩)|(refine (Xo3 HS).mono ?_;rintro r w4 ⟨rfl,rfl⟩))
     refine ⟨⟨i+1,a5,n3+1,c5,rfl,congrArg (Value.int .i64) (by omega),E0,by omega,?_,(Xo1 H5)⟩,by simp only[intOf];omega⟩;rw[(Xo2 HS),show Q9z i (K:Int)=[[120,q,94,q2]] by
      rw[Q9z,Us h1,Uu h2,show dec (i+1)=[q] from (Xo4 HS),show (K:Int).toNat=K by omega,show dec K=[q2] from (Xo3 H5)];rfl]
     exact (Xo0 H5)
    ·have Jl:¬(1<x):=h2;have HX0:=Xh2 h1 h2;clear h1 h2
     go_wp2_with fail
     refine ⟨⟨i+1,a3,n3,c3,rfl,congrArg (Value.int .i64) (by omega),E0,by omega,?_,(Xo1 HS)⟩,by simp only[intOf];omega⟩;rw[(Xo2 HS),show Q9z i x=[] by rw[Q9z,Us (Xo0 HX0),Us (by have:=(Xe1 HX0);omega)],Xaf];exact (Xo0 HS)
  ·have F0:¬((i:Int)<(n:Int)):=(by omega);have U5:i=m.es.length:=(by omega);rw[U5,Ti] at JA;have HS:=Xh2 JA M0;clear JA M0 U5;have hlT:(Q11 0 m.es).length=n3:=(by have:=(Xo0 HS).len;simpa using this);have hn3':n3<=4:=(by omega);have Xl:=Qoe m.neg m.exp a l c m.ws wr (((Xo0 H).step (Xo6 H)).step (Xe1 HS)) (Xo2 H).1.2 (Xo2 H).2;have f0:=((Xe1 HS).cell (p:=⟨w.heap.size,0,none⟩) (Xo7 H)).trans e0;have f1:=((Xe1 HS).cell (p:=⟨w.heap.size,1,none⟩) (Xo7 H)).trans e1;have f2:=((Xe1 HS).cell (p:=⟨w.heap.size,2,none⟩) (Xo7 H)).trans e2;have g7:=(Xo0 H).low;obtain ⟨g1,g2,g3,g4⟩:=Qdr (Xo2 H) g7;have Xz:=(Q6y m.es 0 (by omega) (fun x hx=>((Xe8 H) x hx).2)).1;have R0:∀t∈[Q23 false m.exp m.ws]++Q11 0 m.es,t.length<=1400:=fun t ht=>by
    rcases Tp.1 ht with h|h
    ·rw[UC] at h;rw[h];exact g4
    ·have:=Xz t h;omega
   have HA:=Xh6 Xl hlT g1 g2 g3 R0;clear Xl hlT g1 g2 g3 g4 Xz R0 g7
   by_cases W7:Q11 0 m.es=[]
   ·have G9:((n3:Int)==0)=true:=(by rw[<-(Xo1 HA),W7];rfl);have HT0:=Ua W7;clear W7
    go_upto_region 11 with (go_at_call_of 112 (Value.agg #[.bool m.neg,.int .i64 m.exp,.slice a l c]);refine (Xo0 HA).mono ?_;rintro r w4 ⟨a4,l4,c4,rfl,S6,N1⟩;have H4:=Xh2 S6 N1;clear S6 N1)
    go_quiet (fail)
    have J7:Bw W1 ((w4.alloc (.cells #[.bool false,.int .i64 m.exp,.slice a4 l4 c4] 26)).drewN nq):=Below.drewN' ((Below.next0 (Xe1 HS) (Xe1 H4)).alloc (Below.next0 (Xe1 HS) (Xe1 H4)).size _) _;have hN:=Q03.new w4 (.bool false) (.int .i64 m.exp) (.slice a4 l4 c4) 26;have XJ:WordsIn ((w4.alloc (.cells #[.bool false,.int .i64 m.exp,.slice a4 l4 c4] 26)).drewN nq) a4 l4 c4 m.ws:=(Xo0 H4).toWordsIn.step (Below.drewN' (Ba) _);have YQ:Qq1 ((w4.alloc (.cells #[.bool false,.int .i64 m.exp,.slice a4 l4 c4] 26)).drewN nq) W1.heap.size a3 n3 c3 (Q11 0 m.es):=((Xo0 HS).call (Xe1 H4)).alloc _;generalize t9:(w4.alloc (.cells #[.bool false,.int .i64 m.exp,.slice a4 l4 c4] 26)).drewN nq=Wq at J7 XJ YQ⊢;have n0:Wq.cell? ⟨w4.heap.size,0,none⟩=some (.bool false):=(by rw[<-t9];exact hN.c0);have n1:Wq.cell? ⟨w4.heap.size,1,none⟩=some (.int .i64 m.exp):=(by rw[<-t9];exact hN.c1);have n2:Wq.cell? ⟨w4.heap.size,2,none⟩=some (.slice a4 l4 c4):=(by rw[<-t9];exact hN.c2);clear t9;have K6:=Qgx false m.exp a4 l4 c4 m.ws Wq XJ (by have:=Q2h (Xo4 HA) (Xo0 H4).toWordsIn;omega) (by have:=Q2h (Xo4 HA) (Xo0 H4).toWordsIn;omega) ((Xo4 H).step (Below.next0 (Xo6 H) J7));have HQ:=Xh3 J7 YQ K6;clear J7 XJ YQ K6 hN
    go_wp2_with (first
     |(go_at_call_of 38 (Value.agg #[.bool false,.int .i64 m.exp,.slice a4 l4 c4]);refine (Xe2 HQ).mono ?_;rintro r w7 ⟨rfl,Qc⟩
       have Qe:=Below.next0 (Xo0 HQ) Qc;obtain ⟨a8,c8,w8,JU,Xe,G7⟩:=Qdp 39 W1 (w7.alloc (.cells #[sv (Q23 false m.exp m.ws)] 9)) (Qe.alloc Qe.size _) (some ⟨w7.heap.size,0,none⟩) 1 1 [Q23 false m.exp m.ws] ((Row.lit w7 (Uf _) 9 1 #[sv (Q23 false m.exp m.ws)] 1 (by decide) rfl).lower Qe.size) W1.heap.size a3 n3 c3 (Q11 0 m.es) (((Xo1 HQ).call Qc).alloc _) (by omega);have Y4:1+n3<=1000:=(by omega);generalize 1+n3=N8 at JU Xe Y4;have XX:=Qdq Xe Y4 (Xe5 HA);have H8:=Xh2 XX G7;clear Qc Qe Xe G7 XX)
     |(at_builtin;refine Q0j rfl (.tmp 54) (.tmp 55) 39 39 rfl _ _ rfl rfl _ _ JU ?_)
     |(go_at_call_of 36 (Value.slice a8 N8 c8);refine (Xo0 H8).mono ?_;rintro r w9 ⟨rfl,j4⟩;have H9:=Ua j4;clear j4))
    go_ret;refine ⟨?_,Below.next0 (Xo6 H) (Below.next0 (Xe1 H8) H9.out)⟩;rw[Q1n,Q3o,Uu (by exact .inl HT0.out),(Xo3 HA)];rfl
   ·have G9:((n3:Int)==0)=false:=by
     rw[Uj];intro e;exact W7 (Ty (by rw[(Xo1 HA)];omega))
    have HT0:=Ua W7;clear W7
    go_upto_region 11 with (go_at_call_of 112 (Value.agg #[.bool m.neg,.int .i64 m.exp,.slice a l c]);refine (Xo0 HA).mono ?_;rintro r w4 ⟨a4,l4,c4,rfl,S6,N1⟩;have H4:=Xh2 S6 N1;clear S6 N1)
    have J7:Bw W1 (w4.alloc (.cells #[.bool false,.int .i64 m.exp,.slice a4 l4 c4] 26)):=(Below.next0 (Xe1 HS) (Xe1 H4)).alloc (Below.next0 (Xe1 HS) (Xe1 H4)).size _;have hN:=Q03.new w4 (.bool false) (.int .i64 m.exp) (.slice a4 l4 c4) 26;have XJ:WordsIn (w4.alloc (.cells #[.bool false,.int .i64 m.exp,.slice a4 l4 c4] 26)) a4 l4 c4 m.ws:=(Xo0 H4).toWordsIn.step (Ba);have YQ:Qq1 (w4.alloc (.cells #[.bool false,.int .i64 m.exp,.slice a4 l4 c4] 26)) W1.heap.size a3 n3 c3 (Q11 0 m.es):=((Xo0 HS).call (Xe1 H4)).alloc _;have hlq:=Q0p w4 (.cells #[.bool false,.int .i64 m.exp,.slice a4 l4 c4] 26);generalize t9:w4.alloc (.cells #[.bool false,.int .i64 m.exp,.slice a4 l4 c4] 26)=Wq at J7 hN XJ YQ hlq⊢;clear t9;obtain ⟨n0,n1,n2⟩:=hN.cc;have HQ:=Xh5 J7 hN XJ YQ hlq;clear J7 hN XJ YQ hlq
    go_cut [51] (fun v wx=>∃bb,v=.bool bb/\(!decide (Q1r false m.exp m.ws=1))=bb/\Bw Wq wx)
    case first=>
     go_region_with (first
      |(go_at_call_of 113 (Value.int .i64 1)
        refine (Qae 1 _ (by decide) (((Xo3 H).step (Below.next0 (Xo6 H) (Xo0 HQ))).step (by first|exact Uc _ _|exact Q01 _))).mono ?_;rintro r w5 ⟨n5,e5,a5,l5,c5,L5,rfl,hi5,Vt,hw5,C1⟩;have KL:Bw Wq w5:=by first|exact C1|exact Below.next0 (Q01 _) C1
        have k0:=(KL.cell (p:=⟨w4.heap.size,0,none⟩) (Xe4 HQ)).trans n0;have k1:=(KL.cell (p:=⟨w4.heap.size,1,none⟩) (Xe4 HQ)).trans n1;have k2:=(KL.cell (p:=⟨w4.heap.size,2,none⟩) (Xe4 HQ)).trans n2;have C4:=Qc9 false m.exp a4 l4 c4 m.ws n5 e5 a5 l5 c5 L5;have XQ:=Qnc (Xo4 HA) (Xo2 HQ).low hi5 hw5.toWordsIn.low Vt;have H5:=Xh4 KL hw5 C4 XQ;clear C1 KL hw5 C4 XQ hi5 Vt)
      |(go_at_call_of 30 (Value.agg #[.bool false,.int .i64 m.exp,.slice a4 l4 c4])
        refine ((Xo2 H5) _ (((Xo2 HQ).step (Xo0 H5)).step (by first|exact Uc _ _|exact Q01 _)) ((Xo1 H5).toWordsIn.step (by first|exact Uc _ _|exact Q01 _)) (by have:=Q2h (Xo4 HA) (Xo2 HQ);omega)).mono ?_;rintro r w6 ⟨rfl,F4⟩;rw[(Xe3 H5)];have hb6':Bw Wq w6:=by first|exact Below.next0 (Xo0 H5) F4|exact Below.next0 (Xo0 H5) (Below.next0 (Q01 _) F4)
        have H6:=Ua hb6';clear F4 hb6'))
     all_goals go_wp2_with fail
     all_goals go_meet
     all_goals exact ⟨_,rfl,rfl,H6.out⟩
    case rest=>
     obtain ⟨bb,rfl,Y2,KC⟩:=hcut;have r0:=(KC.cell (p:=⟨w4.heap.size,0,none⟩) (Xe4 HQ)).trans n0;have r1:=(KC.cell (p:=⟨w4.heap.size,1,none⟩) (Xe4 HQ)).trans n1;have r2:=(KC.cell (p:=⟨w4.heap.size,2,none⟩) (Xe4 HQ)).trans n2;have N0:=Below.next0 (Xo0 HQ) KC;have hsc:Qq1 wc W1.heap.size a3 n3 c3 (Q11 0 m.es):=(Xo3 HQ).call KC;have hwc:=(Xo2 HQ).step KC;clear n0 n1 n2;cases bb with
     |false=>
      have h1:Q1r false m.exp m.ws=1:=(by simpa using Y2);have XX:=Qdq hsc (by omega) (fun t ht=>(Xe5 HA) t (by simp[ht]));have HR:=Xh3 h1 XX N0;clear h1 XX N0 hsc hwc Y2 KC
      go_wp2_with (go_at_call_of 36 (Value.slice a3 n3 c3);refine (Xo1 HR).mono ?_;rintro r w9 ⟨rfl,j4⟩;have H9:=Ua j4;clear j4)
      go_ret;refine ⟨?_,Below.next0 (Xo6 H) (Below.next0 (Xe2 HR) H9.out)⟩;rw[Q1n,Q3o,Us (by
       rintro (h|h)
       ·exact HT0.out h
       ·exact h ((Xo2 HA).trans (Xo0 HR)))]
      rfl
     |true=>
      have h1:Q1r false m.exp m.ws≠1:=(by simpa using Y2);have K6:=Qgx false m.exp a4 l4 c4 m.ws wc hwc (by have:=Q2h (Xo4 HA) hwc;omega) (by have:=Q2h (Xo4 HA) hwc;omega) ((Xo4 H).step (Below.next0 (Xo6 H) N0));have HR:=Xh4 N0 hsc K6 h1;clear h1 K6 N0 hsc hwc Y2 KC
      go_wp2_with (first
       |(go_at_call_of 38 (Value.agg #[.bool false,.int .i64 m.exp,.slice a4 l4 c4]);refine (Xo2 HR).mono ?_;rintro r w7 ⟨rfl,Qc⟩
         have Qe:=Below.next0 (Xo0 HR) Qc;obtain ⟨a8,c8,w8,JU,Xe,G7⟩:=Qdp 39 W1 (w7.alloc (.cells #[sv (Q23 false m.exp m.ws)] 9)) (Qe.alloc Qe.size _) (some ⟨w7.heap.size,0,none⟩) 1 1 [Q23 false m.exp m.ws] ((Row.lit w7 (Uf _) 9 1 #[sv (Q23 false m.exp m.ws)] 1 (by decide) rfl).lower Qe.size) W1.heap.size a3 n3 c3 (Q11 0 m.es) (((Xo1 HR).call Qc).alloc _) (by omega);have Y4:1+n3<=1000:=(by omega);generalize 1+n3=N8 at JU Xe Y4;have XX:=Qdq Xe Y4 (Xe5 HA);have H8:=Xh2 XX G7;clear Qc Qe Xe G7 XX)
       |(at_builtin;refine Q0j rfl (.tmp 54) (.tmp 55) 39 39 rfl _ _ rfl rfl _ _ JU ?_)
       |(go_at_call_of 36 (Value.slice a8 N8 c8);refine (Xo0 H8).mono ?_;rintro r w9 ⟨rfl,j4⟩;have H9:=Ua j4;clear j4))
      go_ret;refine ⟨?_,Below.next0 (Xo6 H) (Below.next0 (Xe1 H8) H9.out)⟩;rw[Q1n,Q3o,Uu (by exact .inr fun h=>(Xe3 HR) ((Xo2 HA).symm.trans h)),(Xo3 HA)];rfl
end Go.Proofs.YtidojbkhlenahaaGreatDoor
namespace Go.Proofs.YtidojbkhlenahaaGreatDoor
open Go.RowKit
theorem Qsy (B b:Nat) (l:LU) (w:World) (h:Lib.IsBuilder 57 5 B b (Lib.byteCells l) w):
 Calls Tryz.prog 65 #[.pointer (some ⟨b,0,none⟩)] w fun e w'=>e=.returned (.tuple #[])/\Q3m B b (.pointer (some ⟨b,0,none⟩)) l w'/\Below B w w'/\w'.heap.size=w.heap.size/\∀k,k≠b->w'.heap[k]?=w.heap[k]?:=by
 rcases h with h|h
 ·refine (Qfj b w h.cell0 h.shape h.frozen0).mono ?_;rintro e w' ⟨rfl,rfl⟩;exact ⟨rfl,h.used _,(Uc B w).setCell (p:=⟨b,0,none⟩) h.1 _,by simp,fun k hk=>Td _ _ _ _ hk⟩
 ·refine (Qji b w h.cell0).mono ?_;rintro e w' ⟨rfl,rfl⟩;exact ⟨rfl,h,Uc B _,rfl,fun _ _=>rfl⟩
theorem Q2d (B b:Nat) (l t:LU) (w:World) (h:Lib.IsBuilder 57 5 B b (Lib.byteCells l) w) (K0:l.length+t.length<=140737488355328) (hBw:B<=w.heap.size):
 Calls Tryz.prog 35 #[.pointer (some ⟨b,0,none⟩),sv t] w fun e w'=>e=.returned (.tuple #[.int .i64 (t.length:Int),.nilIface])/\Q3m B b (.pointer (some ⟨b,0,none⟩)) (l++t) w'/\Below B w w'/\∀k cur T fr,w.heap[k]?=some (.cells cur T fr)->T≠5->k≠b->w'.heap[k]?=w.heap[k]?:=by
 obtain ⟨i0,hi,E2,I2,X1⟩:=Xbq Qq3;have HI:=Ua h;clear h
 go_enter Tryz.func35,Tryz.ntmps35
 go_wp2_with (refine (Qsy B b l _ HI.out).mono ?_)
 rintro e w1 ⟨rfl,h1,A0,Y1,hkp⟩;obtain ⟨hB,v,A6,R3,P0⟩:=h1;have Kf:B<=w1.heap.size:=by omega
 have HSZ:=Xh2 Y1 hkp;clear Y1 hkp;have c0:w1.cell? ⟨b,0,none⟩=some (.pointer (some ⟨b,0,none⟩)):=by rw[Lib.cell_of_heap A6];rfl
 have c1:w1.cell? ⟨b,1,none⟩=some v:=by rw[Lib.cell_of_heap A6];rfl
 have E0:b<w1.heap.size:=(Uq.1 A6).1;have HBK:=Ua A6;have G2:(Lib.byteCells l).length+(⟨t.toArray⟩:ByteArray).size<=140737488355328:=by rw[Lib.byteCells_length];exact K0
 have R2:(Lib.byteCells l).length+(⟨t.toArray⟩:ByteArray).size<=maxLen:=by unfold maxLen;omega
 clear A6
 go_wp2_with (at_builtin;refine Lib.wpList_append_own_string _ rfl _ _ 55 9 rfl B 5 i0 Tryz.underlying55 Tryz.underlying9 hi E2 I2 X1 _ _ _ rfl R3 ⟨t.toArray⟩ rfl R2 G2 Kf ?_)
 intro v' w2 p6 D3 _;have D0:w2.heap[b]?=some (.cells #[.pointer (some ⟨b,0,none⟩),v] 57 (0,0)):=by
  rw[D3.block b E0 (fun e=>P0 e.symm)];exact HBK.out
 have d0:w2.cell? ⟨b,0,none⟩=some (.pointer (some ⟨b,0,none⟩)):=by rw[Lib.cell_of_heap D0];rfl
 have d1:w2.cell? ⟨b,1,none⟩=some v:=by rw[Lib.cell_of_heap D0];rfl
 have f1:w2.frozen? ⟨b,1,none⟩=false:=Lib.frozen_of_heap D0 1;obtain ⟨ao,n',cap,rfl⟩:∃ao n' cap,v'=.slice ao n' cap:=by
  rcases p6.2 with ⟨hv,_⟩|⟨g,cap,cur,hv,_⟩
  ·exact ⟨_,_,_,hv⟩
  ·exact ⟨_,_,_,hv⟩
 have HE:=Xh4 D0 p6 D3 A0;clear D0 p6 D3 A0 G2 R2
 go_wp2_with fail
 go_ret2
 obtain ⟨D0,p6,D3,A0⟩:=HE.out;refine ⟨rfl,?_,?_,fun k cur T fr hk hT Ye=>?_⟩
 ·refine Lib.BuilderAt.put (T:=57) (e:=5) hB D0 (bs':=Lib.byteCells (l++t)) ?_ (by decide);rw[Q9t];have e1:Lib.strCells ⟨t.toArray⟩=Lib.byteCells t:=rfl;rw[<-e1,Uh,Lib.strCells_length];exact p6
 ·exact (A0.grown D3 (by omega) (fun k hk=>(R3.lt k hk).1)).setCell (p:=⟨b,1,none⟩) hB _
 ·have J2:w1.heap[k]?=w.heap[k]?:=(Xe1 HSZ) k Ye;have hklt:k<w1.heap.size:=(Uq.1 (J2.trans hk)).1;rw[Td _ _ _ _ Ye,D3.block k hklt (fun e=>?_),J2];rcases R3.2 with ⟨hv,_⟩|⟨g,cap,cur2,hv,_,hh,_⟩
  ·rw[hv] at e;simp[Value.ownBlock] at e
  ·rw[hv] at e;simp only[Value.ownBlock,Up] at e;subst e;rw[J2,hk] at hh;injection hh with hh;injection hh with _ hh _;exact hT hh
open DecM WordsM
theorem Q6z (P:List Q0l):∀(F:List (List Q0l)) (i:Nat),Q0u i (F++[P])=Q0u i F++Q5o (i+F.length) P
 |[],i=>by simp[Q0u]
 |Q::F,i=>by
  rw[To,Q0u,Q6z P F (i+1),Q0u,UN,Um,show i+1+F.length=i+(F.length+1) by omega]
theorem Q8v (p:Q0l):∀(l:List Q0l) (b:Bool),Q0m b (l++[p])=Q0m b l++(Q31 (b && l.isEmpty) p++Q1n p)
 |[],b=>by simp[Q0m]
 |q::l,b=>by
  rw[To,Q0m,Q8v p l false,Q0m];simp
theorem Q6i {α:Type} {l:List α} {i:Nat} {x:α} (h:l[i]?=some x):l.take (i+1)=l.take i++[x]:=by rw[Tr,h];rfl
def Q0n (F:List (List Q00)):List (List Q0l):=F.map (List.map Q00.term)
theorem Qfo {F:List (List Q00)} {i:Nat} {ms:List Q00} (h:F[i]?=some ms):(Q0n F)[i]?=some (ms.map Q00.term):=by unfold Q0n;rw[UK,h];rfl
theorem Qjm {k:Nat} {m:Q00} (h:OkM k m) (hl:Low (2^64) m.ws):Q20 m.term.1=m.neg:=by
 obtain ⟨⟨h1,h2⟩,h3⟩:=h;rcases Q1a h2 hl with ⟨h4,_⟩|⟨_,ho,_,hv,g1,g2⟩
 ·exact absurd h4 h3
 ·exact Q7x ho
theorem Qln {k:Nat} {m:Q00} (h:OkM k m) (hk:k<=4) (hl:Low (2^64) m.ws):(Q1n m.term).length<=7005:=by
 obtain ⟨_,g2,_,g4⟩:=Qdr h hl;have K0:m.es.length<=4:=by have:=h.1.1.1;omega
 obtain ⟨h1,h2⟩:=Q6y m.es 0 (by omega) (fun x hx=>(Q27 h.1.1 x hx).2);have R0:∀t∈Q3o m.term,t.length<=1400:=fun t ht=>by
  unfold Q3o at ht
  split at ht
  ·rcases UG.1 ht with rfl|ht
   ·rw[g2];exact g4
   ·have:=h1 t ht;omega
  ·have:=h1 t ht;omega
 have u5:(Q3o m.term).length<=5:=by
  have Jl:(Q11 0 m.term.2).length<=4:=Ul h2 K0;unfold Q3o
  split
  ·rw[Um];omega
  ·omega
 have:=Q9v _ R0;have:(Q3o m.term).length*1401<=5*1401:=UY _ u5
 show (Q2k (Q3o m.term)).length<=_
 omega
theorem Qlo (b:Bool) (p:Q0l):(Q31 b p).length<=3:=by
 unfold Q31
 split <;> split <;> decide
theorem Qjn {T:List Q0l} (h:∀p∈T,(Q1n p).length<=7005):∀b,(Q0m b T).length<=T.length*7008:=by
 induction T with
 |nil=>intro b;simp[Q0m]
 |cons p r ih=>
  intro b;have h1:=h p (by simp);have h2:=Qlo b p;have h3:=ih (fun q hq=>h q (by simp[hq])) false;rw[Q0m,Uh,Uh,Um,Tl];omega
def Qsz (F:List (List Q00)):Prop:=∀ms∈F,ms.length<=24/\∀m∈ms,(Q1n m.term).length<=7005
theorem Q70 {ms:List Q00} (h:ms.length<=24/\∀m∈ms,(Q1n m.term).length<=7005) (k:Nat):(Q0m true ((ms.map Q00.term).take k)).length<=168192:=by
 have h1:=Qjn (T:=(ms.map Q00.term).take k) (fun p hp=>by
  obtain ⟨m,hm,rfl⟩:=Tx.1 (Ts hp);exact h.2 m hm) true
 have h2:((ms.map Q00.term).take k).length<=24:=by rw[UW,UF];omega
 have:=UY 7008 h2;omega
theorem Qlp {ms:List Q00} (h:ms.length<=24/\∀m∈ms,(Q1n m.term).length<=7005) {i:Nat} (hi:i<9):(Q5o i (ms.map Q00.term)).length<=168200:=by
 have h1:=Q70 h ms.length;have h0:(ms.map Q00.term).length=ms.length:=UF ..;rw[<-h0,Ti] at h1;have h2:=Q7z i hi;unfold Q5o Q4u;rw[Uh,Uh,h2]
 split
 ·simp
 ·simp only[Um,UP];omega
theorem Q5w {F:List (List Q00)} (h:Qsz F):∀i,i+F.length<=9->(Q0u i (Q0n F)).length<=F.length*168200:=by
 induction F with
 |nil=>intro i _;simp[Q0u,Q0n]
 |cons ms r ih=>
  intro i hi;rw[Um] at hi;have h1:=Qlp (h ms (by simp)) (i:=i) (by omega);have h2:=ih (fun x hx=>h x (by simp[hx])) (i+1) (by omega)
  show (Q5o i (ms.map Q00.term)++Q0u (i+1) (Q0n r)).length<=_
  rw[Uh,Um,Tl];omega
theorem Qc2 [LT ZK] {w:World} {a:OA} {n c:Nat} {F:List (List Q00)} (h:Q1v w a n c F) (hR:Q1w F):Qsz F:=by
 intro ms D6;obtain ⟨_,h4,hr⟩:=hR;obtain ⟨r1,r2,r3,r4,r5⟩:=hr ms D6;refine ⟨r3,fun m hm=>Qln (r4 m hm) h4 ?_⟩;obtain ⟨h1,h2,h3,h0|⟨b,o,_,_,hF⟩⟩:=h
 ·rw[h0] at D6;cases D6
 obtain ⟨i,hi⟩:=UQ.1 D6;obtain ⟨p,l,d,_,hM⟩:=hF i ms hi;obtain ⟨_,_,_,h0|⟨b2,o2,_,_,hM⟩⟩:=hM
 ·rw[h0] at hm;cases hm
 obtain ⟨j,hj⟩:=UQ.1 hm;obtain ⟨_,_,_,_,_,_,_,_,_,_,hw,_⟩:=hM j m hj;exact hw.low
def Qy1 (w1:World) (F:List (List Q00)) (s13:Value) (wr:World):Prop:=∃i:Nat,s13=.int .i64 (i:Int)/\i<=F.length/\Q60 w1.heap.size w1.heap.size (Q0u 0 ((Q0n F).take i)) wr/\Bw w1 wr
def Qnd (w1:World) (L0:LU) (ms:List Q00) (s27:Value) (wr:World):Prop:=∃k:Nat,s27=.int .i64 (k:Int)/\k<=ms.length/\Q60 w1.heap.size w1.heap.size (L0++Q0m true ((ms.map Q00.term).take k)) wr/\Bw w1 wr
theorem Q3m.build {B b:Nat} {l:LU} {w:World} (h:Q3m B b (.pointer (some ⟨b,0,none⟩)) l w):Q60 B b l w:=.inr h
theorem Qgy [LT ZK] (a:OA) (n c:Nat) (F:List (List Q00)) (w:World) (h:Q1v w a n c F) (hT:Q1s w) (hP:Qbh w):
 Calls Tryz.prog 40 #[.slice a n c] w fun r w'=>(Q1w F->r=.returned (sv (Q0u 0 (Q0n F))))/\(¬Q1w F->r=.returned (sv []))/\Bw w w':=by
 have B6:=Q8c a n c F w h
 by_cases hR:Q1w F
 case neg=>
  have H:=Xh2 B6 hR;clear B6 h hT hP hR
  go_enter Tryz.func40,Tryz.ntmps40
  go_wp2_with (go_at_call_of 18 (Value.slice a n c);refine (Xo0 H).mono ?_;rintro r w1 ⟨⟨bb,rfl,M8⟩,A0⟩;obtain rfl:bb=false:=by { cases bb with|false=>rfl|true=>exact absurd (M8.1 rfl) (Xe1 H) };have H1:=Ua A0;clear M8 A0)
  go_ret;exact ⟨fun h=>absurd h (Xe1 H),fun _=>rfl,H1.out⟩
 case pos=>
 have QL:=Qc2 h hR;have Q2:=h.1;have Qx:n<=4:=by have:=hR.2.1;omega
 have H:=Xh6 B6 hR h hT hP QL;clear B6 h hT hP QL
 go_enter Tryz.func40,Tryz.ntmps40
 go_wp2_with (go_at_call_of 18 (Value.slice a n c);refine (Xo0 H).mono ?_;rintro r w1 ⟨⟨bb,rfl,M8⟩,A0⟩;obtain rfl:bb=true:=M8.2 (Xo1 H);have H1:=Ua A0;clear M8 A0)
 have N6:Bw w1 (w1.alloc (.cells #[.pointer none,.slice none 0 0] 57)):=Ba;have Kd:=Q60.new w1.heap.size w1 (Uf _);have HB:=Xh2 N6 Kd;clear N6 Kd hR;generalize w1.alloc (.cells #[.pointer none,.slice none 0 0] 57)=W2 at HB⊢
 rename World=>W2
 go_loopw [13] (fun s13 wr=>Qy1 w1 F s13 wr) (fun iv _=>n-(intOf iv).toNat)
 case atStart=>exact ⟨0,rfl,Ut _,(Xe1 HB),(Xo0 HB)⟩
 case round=>
  obtain ⟨i,rfl,hi,I9,M0⟩:=hrel
  by_cases E0:i<F.length
  ·have F0:(i:Int)<(n:Int):=(by omega);obtain ⟨ms,D6⟩:∃ms,F[i]?=some ms:=⟨_,Ub E0⟩;have hF:=(Xo2 H).step H1.out;have QP:=Ug D6;have Km:=(Xo1 H).2.2 ms QP;have Zr:=(Xe5 H) ms QP;have M2:(Q0u 0 ((Q0n F).take i)).length<=672800:=by
    have h1:=Q5w (F:=F.take i) (fun x hx=>(Xe5 H) x (Ts hx)) 0 (by rw[UW];omega);have h2:(F.take i).length<=4:=(by rw[UW];omega);have h3:=UY 168200 h2;unfold Q0n at h1⊢;rw[<-List.map_take];omega
   have z4:=Q6i (Qfo D6);obtain ⟨_,_,_,h0|⟨g,o,rfl,hg,hFi⟩⟩:=hF
   ·rw[h0] at E0;exact absurd E0 (Tk _)
   obtain ⟨p,l,d,G1,hM⟩:=hFi i ms D6;have XY:=hM.1;have G1:=(M0.cell (p:=⟨g,o+i,none⟩) hg).trans G1;have QJ:=Qn6 i (by omega) wr;have Vj:=Q2d w1.heap.size w1.heap.size (Q0u 0 ((Q0n F).take i)) (Q3f i) wr I9 (by rw[Q7z i (by omega)];omega) M0.size;have HR:=Xh9 D6 Km Zr M2 z4 hM QJ Vj M0;clear D6 Km Zr M2 z4 hM QJ Vj M0 I9 QP hFi;obtain ⟨L0,Qw⟩:∃L0,Q0u 0 ((Q0n F).take i)++Q3f i=L0:=⟨_,rfl⟩;have HL:=Ua Qw;rw[Qw] at HR;clear Qw;obtain ⟨HM,hHM⟩:∃t,Q3f i=t:=⟨_,rfl⟩;rw[hHM] at HR;have HHM:=Ua hHM;clear hHM;have X2:Q5o i (ms.map Q00.term)=Q3f i++(Q4u (ms.map Q00.term)++[10]):=rfl
   by_cases hms0:ms=[]
   ·subst hms0;obtain rfl:l=0:=XY.symm
    go_wp2_with (first
     |(go_at_call_of 35 (Value.pointer (some ⟨w1.heap.size,0,none⟩));refine (Xe1 H3).mono ?_;rintro r w4 ⟨rfl,N1,hbl4,_⟩
       have Jy:=Xa2 (Xo0 H3) hbl4;have hwr3:=Q2d w1.heap.size w1.heap.size (L0++[48]) [10] w4 N1.build (by rw[<-HL.out,Uh,Uh,Q7z i (by omega)];have:=(Xo3 HR);simp;omega) Jy.size;have H4:=Xh2 Jy hwr3;clear N1 hbl4 Jy hwr3)
     |(go_at_call_of 35 (Value.pointer (some ⟨w1.heap.size,0,none⟩));refine (Xo7 HR).mono ?_;rintro r w3 ⟨rfl,I0,KZ,_⟩
       have QM:=Xa2 (Xe8 HR) KZ;have Vq:=Q2d w1.heap.size w1.heap.size L0 [48] w3 I0.build (by rw[<-HL.out,Uh,Q7z i (by omega)];have:=(Xo3 HR);simp;omega) QM.size;have H3:=Xh2 QM Vq;clear I0 KZ QM Vq)
     |(go_at_call_of 70 (Value.int IntKind.i64 (i:Int));refine (Xo6 HR).mono ?_;rintro r w2 ⟨rfl,rfl⟩))
    go_loopw [27] (fun s27 wr=>s27=.int .i64 0/\wr=w4) (fun _ _=>0)
    case atStart=>exact ⟨rfl,rfl⟩
    case round=>
     obtain ⟨rfl,rfl⟩:=hrel
     go_wp2_with (go_at_call_of 35 (Value.pointer (some ⟨w1.heap.size,0,none⟩));refine (Xe1 H4).mono ?_;rintro r w5 ⟨rfl,C1,U7,_⟩;have H5:=Xh2 C1 U7;clear C1 U7)
     refine ⟨⟨i+1,congrArg (Value.int .i64) (by omega),E0,?_,Xa2 (Xo0 H4) (Xe1 H5)⟩,by simp only[intOf];omega⟩;rw[(Xo4 HR),Q6z];have e:(Q0u 0 ((Q0n F).take i)++Q5o (0+((Q0n F).take i).length) (List.map Q00.term []))=L0++[48]++[10]:=by
      rw[show 0+((Q0n F).take i).length=i by rw[UW];unfold Q0n;rw[UF];omega,X2,<-HL.out];simp[Q4u]
     rw[e];exact (Xo0 H5).build
   ·have J3:((l:Int)==0)=false:=by
     rw[Uj];intro e;exact hms0 (Ty (by omega))
    have HN0:=Ua hms0;clear hms0
    go_wp2_with (first
     |(go_at_call_of 35 (Value.pointer (some ⟨w1.heap.size,0,none⟩));refine (Xo7 HR).mono ?_;rintro r w3 ⟨rfl,I0,KZ,_⟩
       have QM:=Xa2 (Xe8 HR) KZ;have H3:=Xh2 QM I0;clear I0 KZ QM)
     |(go_at_call_of 70 (Value.int IntKind.i64 (i:Int));refine (Xo6 HR).mono ?_;rintro r w2 ⟨rfl,rfl⟩))
    go_loopw [27] (fun s27 wr=>Qnd w1 L0 ms s27 wr) (fun iv _=>l-(intOf iv).toNat)
    case atStart=>exact ⟨0,rfl,Ut _,by simpa[Q0m] using (Xe1 H3).build,(Xo0 H3)⟩
    case round=>
     obtain ⟨k,rfl,hk,A6,N0⟩:=hrel
     by_cases Qv:k<ms.length
     ·have hkl':(k:Int)<(l:Int):=(by omega);obtain ⟨m,hm⟩:∃m,ms[k]?=some m:=⟨_,Ub Qv⟩;obtain ⟨_,_,_,h0|⟨b2,o2,rfl,D0,hMi⟩⟩:=(Xo5 HR)
      ·exact absurd h0 HN0.out
      obtain ⟨aw,lw,cw,ae,le,ce,q0,q1,q2,q3,hwm,XS,S4,Q3⟩:=hMi k m hm;have q0:=(N0.cell (p:=⟨b2,o2+k*4,none⟩) D0).trans q0;have q1:=(N0.cell (p:=⟨b2,o2+k*4+1,none⟩) D0).trans q1;have q2:=(N0.cell (p:=⟨b2,o2+k*4+2,none⟩) D0).trans q2;have q3:=(N0.cell (p:=⟨b2,o2+k*4+3,none⟩) D0).trans q3;have Xa:OkM F.length m:=(Xo1 HR).2.2.2.1 m (Ug hm);have WE:=Qjm Xa hwm.low;have Z9:=Q8v m.term ((ms.map Q00.term).take k) true;have o5:(ms.map Q00.term).take (k+1)=(ms.map Q00.term).take k++[m.term]:=Q6i (by rw[UK,hm];rfl);have x7:=Q70 (Xo2 HR) k;have S5:=(Xo2 HR).2 m (Ug hm);have Yq:L0.length<=672806:=(by rw[<-HL.out,Uh,Q7z i (by omega)];have:=(Xo3 HR);omega);have hX:=Q32.new wr (.bool m.neg) (.int .i64 m.exp) (.slice aw lw cw) (.slice ae le ce) 98;have hhx:=Uo wr (.cells #[.bool m.neg,.int .i64 m.exp,.slice aw lw cw,.slice ae le ce] 98);have K1:Bw wr (wr.alloc (.cells #[.bool m.neg,.int .i64 m.exp,.slice aw lw cw,.slice ae le ce] 98)):=Ba;have hbX:=Below.next0 N0 K1;have VJ:=A6.call K1;have Kd:w1.heap.size≠wr.heap.size:=by
       have h1:=A6;unfold Q60 at h1;intro e;rcases h1 with ⟨_,_,h2,_⟩|⟨_,_,h2,_⟩
       ·have:=(Uq.1 h2).1;omega
       ·have:=(Uq.1 h2).1;omega
      obtain ⟨L1,Jo⟩:∃L1,L0++Q0m true ((ms.map Q00.term).take k)=L1:=⟨_,rfl⟩;have hL1l:L1.length<=840998:=(by rw[<-Jo,Uh];omega);rw[Jo] at VJ;have Z1:=fun W=>Qjl F.length m aw lw cw ae le ce W;obtain ⟨TT,ZP⟩:∃t,Q1n m.term=t:=⟨_,rfl⟩;rw[ZP] at Z9 S5 Z1;obtain ⟨ng,hng⟩:∃ng,m.neg=ng:=⟨_,rfl⟩;rw[hng] at q0 hX hhx K1 hbX VJ Z1 WE;have HS:=Xh17 Z9 o5 hwm XS Xa hX hhx K1 hbX VJ Kd Z1 S5 Jo hL1l hng WE;clear ZP Z9 o5 hwm XS Xa hX hhx K1 hbX VJ Kd Z1 S5 Jo hL1l x7 Yq hng WE A6 N0 hMi S4 Q3;have S3:∀(st:LU) (w9:World),Q31 (true && ((ms.map Q00.term).take k).isEmpty) m.term=st->Q3m w1.heap.size w1.heap.size (.pointer (some ⟨w1.heap.size,0,none⟩)) (L1++st++TT) w9->Bw w1 w9->Qnd w1 L0 ms (.int .i64 ((k:Int)+1)) w9:=fun st w9 hs h1 h2=>by
       refine ⟨k+1,congrArg (Value.int .i64) (by omega),Qv,?_,h2⟩;rw[(Xo1 HS),(Xo0 HS),hs,<-UN,(Xo13 HS),<-UN];exact h1.build
      have HE:=Ua S3;clear S3;cases ng with
      |true=>
       by_cases Jv:0<k
       ·have Zj:(0:Int)<(k:Int):=(by omega);have P2:Q31 (true && ((ms.map Q00.term).take k).isEmpty) m.term=[32,45,32]:=by
         have e:((ms.map Q00.term).take k).isEmpty=false:=by
          rw[List.isEmpty_eq_false_iff];intro h;have:=congrArg List.length h;rw[UW,UF] at this;have e0:([]:List Q0l).length=0:=rfl;omega
         rw[e,Q31,(Xe16 HS)];rfl
        have e0:=(Xo5 HS).c0;have e1:=(Xo5 HS).c1;have e2:=(Xo5 HS).c2;have e3:=(Xo5 HS).c3;have Zb:=Q2d w1.heap.size w1.heap.size L1 [32,45,32] (wr.alloc (.cells #[.bool true,.int .i64 m.exp,.slice aw lw cw,.slice ae le ce] 98)) (Xo9 HS) (by have:=(Xo14 HS);simp;omega) (Xo8 HS).size;have HA:=Xh2 P2 Zb;clear P2 Zb
        go_wp2_with (first
         |(go_at_call_of 35 (Value.pointer (some ⟨w1.heap.size,0,none⟩));refine (Xe1 H6).mono ?_;rintro r w7 ⟨rfl,Qc,N9,_⟩
           have H7:=Xh2 Qc (Xa2 (Xo0 H6) N9);clear Qc N9)
         |(go_at_call_of 71 (Value.agg #[.bool true,.int .i64 m.exp,.slice aw lw cw,.slice ae le ce]);refine (Xe2 H5).mono ?_;rintro r w6 ⟨rfl,F4⟩
           have L7:=Below.next0 (Xo1 H5) F4;have JK:=Q2d w1.heap.size w1.heap.size (L1++[32,45,32]) TT w6 (Q3m.call (Xo0 H5) F4).build (by have:=(Xo14 HS);have:=(Xo12 HS);rw[Uh];simp;omega) L7.size;have H6:=Xh2 L7 JK;clear F4 L7 JK)
         |(go_at_call_of 35 (Value.pointer (some ⟨w1.heap.size,0,none⟩));refine (Xe1 HA).mono ?_;rintro r w5 ⟨rfl,C1,U7,JE⟩
           have t7:=(Xo5 HS).onKept (JE wr.heap.size _ _ _ (Xo6 HS) (by decide) (fun e=>(Xo10 HS) e.symm));obtain ⟨e0,e1,e2⟩:=t7.cc;have e3:=t7.c3;have z6:=Xa2 (Xo8 HS) U7;have P9:=Below.next0 H1.out z6;have KY:=(Xo11 HS) w5 ((Xo2 HS).step z6) ((Xo3 HS).step z6) (Xo4 HS) (by omega) ((Xo3 H).step P9) ((Xo4 H).step P9);have H5:=Xh3 C1 z6 KY;clear C1 U7 JE t7 z6 P9 KY))
        exact ⟨HE.out _ _ (Xo0 HA) (Xo0 H7) (Xe1 H7),by simp only[intOf];omega⟩
       ·have Zj:¬((0:Int)<(k:Int)):=(by omega);have P2:Q31 (true && ((ms.map Q00.term).take k).isEmpty) m.term=[45]:=by
         have e:((ms.map Q00.term).take k).isEmpty=true:=by
          rw[show k=0 by omega];rfl
         rw[e,Q31,(Xe16 HS)];rfl
        have e0:=(Xo5 HS).c0;have e1:=(Xo5 HS).c1;have e2:=(Xo5 HS).c2;have e3:=(Xo5 HS).c3;have Zb:=Q2d w1.heap.size w1.heap.size L1 [45] (wr.alloc (.cells #[.bool true,.int .i64 m.exp,.slice aw lw cw,.slice ae le ce] 98)) (Xo9 HS) (by have:=(Xo14 HS);simp;omega) (Xo8 HS).size;have HA:=Xh2 P2 Zb;clear P2 Zb
        go_wp2_with (first
         |(go_at_call_of 35 (Value.pointer (some ⟨w1.heap.size,0,none⟩));refine (Xe1 H6).mono ?_;rintro r w7 ⟨rfl,Qc,N9,_⟩
           have H7:=Xh2 Qc (Xa2 (Xo0 H6) N9);clear Qc N9)
         |(go_at_call_of 71 (Value.agg #[.bool true,.int .i64 m.exp,.slice aw lw cw,.slice ae le ce]);refine (Xe2 H5).mono ?_;rintro r w6 ⟨rfl,F4⟩
           have L7:=Below.next0 (Xo1 H5) F4;have JK:=Q2d w1.heap.size w1.heap.size (L1++[45]) TT w6 (Q3m.call (Xo0 H5) F4).build (by have:=(Xo14 HS);have:=(Xo12 HS);rw[Uh];simp;omega) L7.size;have H6:=Xh2 L7 JK;clear F4 L7 JK)
         |(go_at_call_of 35 (Value.pointer (some ⟨w1.heap.size,0,none⟩));refine (Xe1 HA).mono ?_;rintro r w5 ⟨rfl,C1,U7,JE⟩
           have t7:=(Xo5 HS).onKept (JE wr.heap.size _ _ _ (Xo6 HS) (by decide) (fun e=>(Xo10 HS) e.symm));obtain ⟨e0,e1,e2⟩:=t7.cc;have e3:=t7.c3;have z6:=Xa2 (Xo8 HS) U7;have P9:=Below.next0 H1.out z6;have KY:=(Xo11 HS) w5 ((Xo2 HS).step z6) ((Xo3 HS).step z6) (Xo4 HS) (by omega) ((Xo3 H).step P9) ((Xo4 H).step P9);have H5:=Xh3 C1 z6 KY;clear C1 U7 JE t7 z6 P9 KY))
        exact ⟨HE.out _ _ (Xo0 HA) (Xo0 H7) (Xe1 H7),by simp only[intOf];omega⟩
      |false=>
       by_cases Jv:0<k
       ·have Zj:(0:Int)<(k:Int):=(by omega);have P2:Q31 (true && ((ms.map Q00.term).take k).isEmpty) m.term=[32,43,32]:=by
         have e:((ms.map Q00.term).take k).isEmpty=false:=by
          rw[List.isEmpty_eq_false_iff];intro h;have:=congrArg List.length h;rw[UW,UF] at this;have e0:([]:List Q0l).length=0:=rfl;omega
         rw[e,Q31,(Xe16 HS)];rfl
        have e0:=(Xo5 HS).c0;have e1:=(Xo5 HS).c1;have e2:=(Xo5 HS).c2;have e3:=(Xo5 HS).c3;have Zb:=Q2d w1.heap.size w1.heap.size L1 [32,43,32] (wr.alloc (.cells #[.bool false,.int .i64 m.exp,.slice aw lw cw,.slice ae le ce] 98)) (Xo9 HS) (by have:=(Xo14 HS);simp;omega) (Xo8 HS).size;have HA:=Xh2 P2 Zb;clear P2 Zb
        go_wp2_with (first
         |(go_at_call_of 35 (Value.pointer (some ⟨w1.heap.size,0,none⟩));refine (Xe1 H6).mono ?_;rintro r w7 ⟨rfl,Qc,N9,_⟩
           have H7:=Xh2 Qc (Xa2 (Xo0 H6) N9);clear Qc N9)
         |(go_at_call_of 71 (Value.agg #[.bool false,.int .i64 m.exp,.slice aw lw cw,.slice ae le ce]);refine (Xe2 H5).mono ?_;rintro r w6 ⟨rfl,F4⟩
           have L7:=Below.next0 (Xo1 H5) F4;have JK:=Q2d w1.heap.size w1.heap.size (L1++[32,43,32]) TT w6 (Q3m.call (Xo0 H5) F4).build (by have:=(Xo14 HS);have:=(Xo12 HS);rw[Uh];simp;omega) L7.size;have H6:=Xh2 L7 JK;clear F4 L7 JK)
         |(go_at_call_of 35 (Value.pointer (some ⟨w1.heap.size,0,none⟩));refine (Xe1 HA).mono ?_;rintro r w5 ⟨rfl,C1,U7,JE⟩
           have t7:=(Xo5 HS).onKept (JE wr.heap.size _ _ _ (Xo6 HS) (by decide) (fun e=>(Xo10 HS) e.symm));obtain ⟨e0,e1,e2⟩:=t7.cc;have e3:=t7.c3;have z6:=Xa2 (Xo8 HS) U7;have P9:=Below.next0 H1.out z6;have KY:=(Xo11 HS) w5 ((Xo2 HS).step z6) ((Xo3 HS).step z6) (Xo4 HS) (by omega) ((Xo3 H).step P9) ((Xo4 H).step P9);have H5:=Xh3 C1 z6 KY;clear C1 U7 JE t7 z6 P9 KY))
        exact ⟨HE.out _ _ (Xo0 HA) (Xo0 H7) (Xe1 H7),by simp only[intOf];omega⟩
       ·have Zj:¬((0:Int)<(k:Int)):=(by omega);have P2:Q31 (true && ((ms.map Q00.term).take k).isEmpty) m.term=[]:=by
         have e:((ms.map Q00.term).take k).isEmpty=true:=by
          rw[show k=0 by omega];rfl
         rw[e,Q31,(Xe16 HS)];rfl
        have e0:=(Xo5 HS).c0;have e1:=(Xo5 HS).c1;have e2:=(Xo5 HS).c2;have e3:=(Xo5 HS).c3;have Wy:=Below.next0 H1.out (Xo8 HS);have KY:=(Xo11 HS) _ ((Xo2 HS).step (Xo8 HS)) ((Xo3 HS).step (Xo8 HS)) (Xo4 HS) (by omega) ((Xo3 H).step Wy) ((Xo4 H).step Wy);have HA:=Xh2 P2 KY;clear P2 KY Wy
        go_wp2_with (first
         |(go_at_call_of 35 (Value.pointer (some ⟨w1.heap.size,0,none⟩));refine (Xe1 H6).mono ?_;rintro r w7 ⟨rfl,Qc,N9,_⟩
           have H7:=Xh2 Qc (Xa2 (Xo0 H6) N9);clear Qc N9)
         |(go_at_call_of 71 (Value.agg #[.bool false,.int .i64 m.exp,.slice aw lw cw,.slice ae le ce]);refine (Xe1 HA).mono ?_;rintro r w6 ⟨rfl,F4⟩
           have L7:=Below.next0 (Xo8 HS) F4;have JK:=Q2d w1.heap.size w1.heap.size L1 TT w6 ((Xo9 HS).call F4) (by have:=(Xo14 HS);have:=(Xo12 HS);omega) L7.size;have H6:=Xh2 L7 JK;clear F4 L7 JK))
        exact ⟨HE.out [] _ (Xo0 HA) (by rw[Xaf];exact (Xo0 H7)) (Xe1 H7),by simp only[intOf];omega⟩
     ·have hkl':¬((k:Int)<(l:Int)):=(by omega);have hke:k=ms.length:=(by omega);have o5:(ms.map Q00.term).take k=ms.map Q00.term:=Uz (by rw[UF];omega);rw[o5] at A6;have x7:=Q70 (Xo2 HR) ms.length;have h0:(ms.map Q00.term).length=ms.length:=UF ..;rw[<-h0,Ti] at x7;have Yq:L0.length<=672806:=(by rw[<-HL.out,Uh,Q7z i (by omega)];have:=(Xo3 HR);omega);have hw10:=Q2d w1.heap.size w1.heap.size (L0++Q0m true (ms.map Q00.term)) [10] wr A6 (by rw[Uh];simp;omega) N0.size;have HW:=Xh2 hw10 N0;clear A6 o5 hke x7 Yq hw10 N0
      go_wp2_with (go_at_call_of 35 (Value.pointer (some ⟨w1.heap.size,0,none⟩));refine (Xo0 HW).mono ?_;rintro r w5 ⟨rfl,C1,U7,_⟩;have H5:=Xh2 C1 U7;clear C1 U7)
      refine ⟨⟨i+1,congrArg (Value.int .i64) (by omega),E0,?_,Xa2 (Xe1 HW) (Xe1 H5)⟩,by simp only[intOf];omega⟩;rw[(Xo4 HR),Q6z];have e:(Q0u 0 ((Q0n F).take i)++Q5o (0+((Q0n F).take i).length) (ms.map Q00.term))=L0++Q0m true (ms.map Q00.term)++[10]:=by
       rw[show 0+((Q0n F).take i).length=i by rw[UW];unfold Q0n;rw[UF];omega,X2,<-HL.out,Q4u,Us (by intro h;exact HN0.out (List.map_eq_nil_iff.1 h))];simp only[UN]
      rw[e];exact (Xo0 H5).build
  ·have F0:¬((i:Int)<(n:Int)):=(by omega);have U5:i=F.length:=(by omega);have R0:(Q0n F).take i=Q0n F:=Uz (by unfold Q0n;rw[UF];omega);rw[R0] at I9;have P0:Q0u 0 (Q0n F)≠[]:=by
    intro e;have h1:=congrArg (List.count 10) e;rw[Qcs] at h1;have h2:(Q0n F).length=F.length:=(by unfold Q0n;exact UF ..);have h3:=(Xo1 H).1;have h4:List.count (10:UInt8) []=0:=rfl;omega
   have JA:=Tryz.J0d w1.heap.size w1.heap.size (Q0u 0 (Q0n F)) wr I9 P0;have HS:=Xh2 JA M0;clear I9 R0 U5 P0 JA M0
   go_wp2_with (go_at_call_of 39 (Value.pointer (some ⟨w1.heap.size,0,none⟩));refine (Xo0 HS).mono ?_;rintro r w9 ⟨rfl,j4⟩;have H9:=Ua (Xa2 (Xe1 HS) j4);clear j4)
   go_ret;exact ⟨fun _=>rfl,fun h=>absurd (Xo1 H) h,Below.next0 H1.out H9.out⟩
theorem Qt0 (B b g n:Nat) (l:LU) (xs:List (LU)) (w:World) (hb:Q60 B b l w) (hB:B<=w.heap.size) (hg:g<w.heap.size) (hc:∀(j:Nat) x,xs[j]?=some x->w.cell? ⟨g,j,none⟩=some (sv x)) (hn:xs.length=n) (h3:n<=3) (hl:l.length+(Lib.join xs [32]).length<=140737488355000):
 Calls Tryz.prog 34 #[.slice (some ⟨g,0,none⟩) n n,.pointer (some ⟨b,0,none⟩)] w fun r w'=>r=.returned (.tuple #[])/\Q60 B b (l++(Lib.join xs [32]++[10])) w'/\Below B w w':=by
 have hid:(xs.map ((fun x:ByteArray=>x.data.toList) ∘ fun x:LU=>(⟨x.toArray⟩:ByteArray)))=xs:=List.map_id xs;have hj:=Tryz.J0j g 0 n (xs.map fun x=>⟨x.toArray⟩) ⟨#[32]⟩ w (fun j x hx=>by
  rw[UK] at hx;cases hy:xs[j]? with
  |none=>rw[hy] at hx;cases hx
  |some y=>rw[hy] at hx;injection hx with hx;subst hx;rw[UV];exact hc j y hy) hg (by rw[UF];omega) (by rw[UF];omega) (by rw[Xbs,hid];show (Lib.join xs [32]).length<=_;omega)
 rw[UF,hn,Xbs] at hj;rw[hid] at hj;obtain ⟨J,hJ⟩:∃J,Lib.join xs [32]=J:=⟨_,rfl⟩;have VC:Calls Tryz.prog 36 #[.slice (some ⟨g,0,none⟩) n n,.string ⟨#[32]⟩] w fun e w'=>e=.returned (.string ⟨J.toArray⟩)/\Bw w w':=by rw[<-hJ];exact hj
 rw[hJ] at hl⊢;have hw:=fun W (hW:Bw w W)=>Qjj B b l (J++[10]) W (hb.call hW) (by simp;omega) (Ul hB hW.size);have hJ1:¬9223372036854775807<J.length+1:=by omega
 have hsv:sv (J++[10])=.string (⟨J.toArray⟩++⟨#[10]⟩):=by
  unfold sv;refine congrArg Value.string ?_
  apply ByteArray.ext
  simp[UJ]
 rw[hsv] at hw;have HW:=Xh3 VC hw hB;clear hj VC hw hb hc hid hJ hl
 go_enter Tryz.func34,Tryz.ntmps34
 go_wp2_with (first
  |(go_at_call 36;refine (Xo0 HW).mono ?_;rintro e w1 ⟨rfl,A0⟩;have H1:=Ua A0;clear A0)
  |(refine ((Xo1 HW) w1 H1.out).mono ?_;rintro e w2 ⟨rfl,V5,D0⟩;have H2:=Xh2 V5 D0;clear V5 D0))
 go_end0
 exact ⟨rfl,(Xo0 H2).build,(H1.out.mono (Xe2 HW)).trans (Xe1 H2)⟩
end Go.Proofs.YtidojbkhlenahaaGreatDoor
