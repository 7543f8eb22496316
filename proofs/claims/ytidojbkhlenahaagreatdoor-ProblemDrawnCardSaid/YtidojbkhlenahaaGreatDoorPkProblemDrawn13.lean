/- Part 13. No condition. -/
import Derived.Lib.Join
import Derived.Test.YtidojbkhlenahaaGreatDoorPkProblemDrawn12
set_option maxRecDepth 100000
set_option maxHeartbeats 16000000
namespace Go.Proofs.YtidojbkhlenahaaGreatDoor
open Go.RowKit WordsM DecM
theorem Qts:(Tryz.prog.info? 9).map (fun i=>(i.zero,i.size,i.bytes))=some (some (.string ⟨#[]⟩),1,16):=by kernel_rfl
theorem Qbb (t:ByteArray):∀u∈[Value.string t],u.oneCell'=true:=by
 intro u hu;rw[Uy] at hu;subst hu;rfl
theorem Q6t (m:Nat):Lib.repeatL [48] m=List.replicate m (48:UInt8):=by
 induction m with
 |zero=>rfl
 |succ m ih=>rw[List.replicate_succ,<-ih];rfl
def rev (xs:List (LU)):LU:=xs.reverse.flatten
theorem Qlq (xs:List (LU)) (t:LU):rev (xs++[t])=t++rev xs:=by simp[rev]
theorem Qw5 (xs:List (LU)) (h:∀x∈xs,1<=x.length):xs.length<=(rev xs).length:=by
 induction xs with
 |nil=>simp[rev]
 |cons x r ih=>
  have h1:=ih fun y hy=>h y (by simp[hy]);have h2:=h x (by simp);simp only[rev,List.reverse_cons,List.flatten_append,Ui,Ul] at h1⊢;simp only[List.flatten_cons,List.flatten_nil,Xao];omega
def Qec (v u:Nat) (xs:List (LU)):Prop:=(u=0->rev xs=dec v)/\(u≠0->dec v=dec u++rev xs)/\∀x∈xs,1<=x.length
theorem Qec.len {v u:Nat} {xs:List (LU)} (h:Qec v u xs):xs.length<=(dec v).length/\(rev xs).length<=(dec v).length:=by
 have h1:=Qw5 xs h.2.2
 by_cases h0:u=0
 ·rw[<-h.1 h0];exact ⟨h1,Ue _⟩
 ·have h2:=congrArg List.length (h.2.1 h0);rw[Ui] at h2;omega
theorem Qec.next {v u q r:Nat} {xs:List (LU)} (h:Qec v u xs) (hu:u≠0) (hq:u=q*10^19+r) (hr:r<10^19):Qec v q (xs++[if q=0 then dec r else List.replicate (19-(dec r).length) 48++dec r]):=by
 have h1:=Q3k r;refine ⟨fun h0=>?_,fun h0=>?_,fun x hx=>?_⟩
 ·rw[Uu h0,Qlq,h.2.1 hu,hq,h0];simp
 ·rw[Uq h0,Qlq,h.2.1 hu,hq,Quu q (by omega) 19 r hr,Quv 19 r (by decide) hr];simp
 ·rcases Tl.1 hx with hx|hx
  ·exact h.2.2 x hx
  ·rw[Uy] at hx;subst hx
   split
   ·exact h1
   ·rw[Ui];omega
theorem Qk1 {w w':World} {a:OA} {n c:Nat} {ls:LN} {row:Option Nat} (h:WordsIn w a n c ls) (hg:w.grownBy w' row) (C1:∀x,a=some x->some x.block≠row):WordsIn w' a n c ls:=by
 refine ⟨h.len,h.cap,h.most,h.low,?_⟩;rcases h.rd with h0|⟨b,o,rfl,hb,hc⟩
 ·exact .inl h0
 ·have S5:=hg.block b hb (C1 _ rfl);have F3:b<w'.heap.size:=by
   have h1:w.heap[b]?=some w.heap[b]:=UZ hb;rw[<-S5] at h1;exact (Uo.1 h1).1
  exact .inr ⟨b,o,rfl,F3,fun j x hx=>(UK (a:=⟨b,o+j,none⟩) S5).trans (hc j x hx)⟩
theorem Q9n {wr w2 w5:World} {O:Obj} {aq al a3:OA} {nq cq q:Nat} (hW:WordsIn w2 aq nq cq (dig (2^64) q)) (XS:q≠0) (j6:∀x,aq=some x->wr.heap.size<=x.block) (R4:∀y,al=some y->y.block<wr.heap.size)
 (hg:(w2.alloc O).grownBy w5 (al.map (·.block))) (J2:a3.map (·.block)=al.map (·.block)∨a3.map (·.block)=some (w2.alloc O).heap.size):WordsIn w5 aq nq cq (dig (2^64) q)/\∀x y,aq=some x->a3=some y->x.block≠y.block:=by
 have F0:∀x,aq=some x->x.block<w2.heap.size:=fun x e=>by
  rcases hW.rd with h0|⟨b,o,rfl,hb,_⟩
  ·exact absurd ((Q51 (by decide)).1 h0) XS
  ·injection e with e;subst e;exact hb
 refine ⟨Qk1 (hW.step ((Ud _ _).alloc (Ue _) O)) hg fun x e e2=>?_,fun x y ex ey e=>?_⟩
 ·cases hal2:al with
  |none=>rw[hal2] at e2;cases e2
  |some z=>
   rw[hal2] at e2;simp only[UG,Un] at e2;have:=j6 x e;have:=R4 z hal2;omega
 ·have h1:=F0 x ex;have h2:=j6 x ex;rw[ey,UG] at J2;rcases J2 with h3|h3
  ·cases hal2:al with
   |none=>rw[hal2] at h3;cases h3
   |some z=>
    rw[hal2] at h3;simp only[UG,Un] at h3;have:=R4 z hal2;omega
  ·simp only[Un] at h3;rw[Ur] at h3;omega
theorem Qk2 (a:OA) (n c:Nat) (v:Nat) (w:World) (h:WordsIn w a n c (dig (2^64) v)) (hn:n<=64) (Zd:(dec v).length<=1281) (t6:∀W,Bw w W->Lib.TabIs Tryz.prog W "internal/strconv.uint64pow10" .u64 Lib.pow10Tab):
 Calls Tryz.prog 68 #[.slice a n c] w fun e w'=>e=.returned (sv (dec v))/\Bw w w':=by
 by_cases M7:v=0
 ·have ZZ:n=0:=by have:=h.len;rw[M7,Q14] at this;exact this.symm
  subst ZZ M7;have XX:dec 0=[48]:=Q1z (by decide);have HD:=Ua XX;clear h XX t6 Zd
  go_enter Tryz.func68,Tryz.ntmps68
  go_wp2_with fail
  go_ret;rw[HD.out];exact ⟨rfl,Ud _ _⟩
 ·have ZZ:n≠0:=fun e=>M7 ((Q51 (B:=2^64) (by decide)).1 (UC.1 (by rw[h.len,e])));have hn0I:((n:Int)==0)=false:=by rw[Uk];omega
  obtain ⟨i0,S2,E2,O1,Y1⟩:=Xbn Qts;have HI:=Xh4 S2 E2 O1 Y1;have H:=Xh3 h t6 M7;clear h t6 M7 S2 E2 O1 Y1
  go_enter Tryz.func68,Tryz.ntmps68
  go_wp2_with fail
  go_loopg [0,3] v (fun g wv lv wr=>∃(u:Nat) (ao:OA) (no co:Nat) (al:OA) (k cl:Nat) (xs:List (LU)),wv=.slice ao no co/\lv=.slice al k cl/\no<=64/\WordsIn wr ao no co (dig (2^64) u)/\Row wr w.heap.size 9 1 al k cl (xs.map sv)/\xs.length=k/\Qec v u xs/\g=u/\Bw w wr/\(u≠0->∀x y,ao=some x->al=some y->x.block≠y.block))
  case atStart=>exact ⟨v,a,n,c,none,0,0,[],rfl,rfl,hn,(Xo0 H),Row.nil_ _ _ _ _,rfl,⟨fun e=>absurd e (Xe2 H),fun _=>by simp[rev],fun x hx=>by simp at hx⟩,rfl,Ud _ _,fun _ x y _ e=>by cases e⟩
  case round=>
   obtain ⟨u,ao,no,co,al,k,cl,xs,rfl,rfl,C4,hW,K0,B4,Qx,hg,hb,hdis⟩:=hrel
   by_cases hu:u=0
   ·subst hu;have hno0:no=0:=(by have:=hW.len;rw[Q14] at this;exact this.symm);subst hno0;have Vk:=Qx.1 rfl;have hk:=Qx.len;have K6:k<=1281:=(by omega);have XY:∀W,Bw wr W->∀i t,xs[i]?=some t->∃g,al=some ⟨g,0,none⟩/\W.cell? ⟨g,i,none⟩=some (sv t):=fun W V7 i t ht=>by
     obtain ⟨g,O5,_,Q2,hc⟩:=K0.at_ (j:=i) (x:=sv t) (by rw[UI,ht];rfl);exact ⟨g,O5,(V7.cell (p:=⟨g,i,none⟩) Q2).trans hc⟩
    have O0:(rev xs).length<=1281:=(by omega);have Q1:Bw wr (wr.alloc (.cells #[.pointer none,.slice none 0 0] 57)):=Ba;have Kj:=Q5s.new wr.heap.size wr (Ue _);have HX:=Xh6 Vk XY O0 hb Q1 Kj;clear Vk hk XY O0 hb Q1 Kj K0 Qx hdis hW hg;generalize wr=W1 at*
    go_wp2_with fail
    go_loopw [10] (fun iv wz=>∃j:Nat,iv=.int .i64 ((j:Int)-1)/\j<=k/\Q5s W1.heap.size W1.heap.size (rev (xs.drop j)) wz/\Bw W1 wz) (fun iv _=>(intOf iv+1).toNat)
    case atStart=>exact ⟨k,rfl,Ue _,by rw[TX (by omega)];exact (Xe5 HX),(Xo4 HX)⟩
    case round=>
     obtain ⟨j,rfl,hj,G7,X3⟩:=hrel;cases j with
     |zero=>
      rw[Xa3,(Xo0 HX)] at G7;have HB:=Xh2 G7 X3;clear G7 X3
      go_wp2_with (refine (Tryz.Qzd W1.heap.size W1.heap.size _ _ (Xo0 HB) (Xe1 HB).size).mono ?_;rintro e w3 ⟨rfl,P0⟩;have A4:=Ua P0;clear P0)
      go_ret;exact ⟨rfl,Below.next0 (Xo3 HX) ((Xe1 HB).trans A4.out)⟩
     |succ j=>
      obtain ⟨t,ht⟩:∃t,xs[j]?=some t:=⟨_,Ub (by omega)⟩;obtain ⟨g,rfl,hct⟩:=(Xo1 HX) _ X3 j t ht;have F6:rev (xs.drop j)=rev (xs.drop (j+1))++t:=by
       have e1:=Uh.1 ht;rw[UQ e1.1,e1.2];simp[rev]
      have hl:(rev (xs.drop (j+1))).length+t.length<=1281:=by
       have h1:xs=xs.take j++xs.drop j:=(Xbc j xs).symm;have h2:(rev (xs.drop j)).length<=(rev xs).length:=by
        have h3:rev xs=rev (xs.drop j)++rev (xs.take j):=by
         have h4:=congrArg rev h1;rw[h4];unfold rev;rw[List.reverse_append,List.flatten_append]
        rw[h3,Ui];omega
       rw[F6,Ui] at h2;have:=(Xo2 HX);omega
      have hjI:((j+1:Nat):Int)-1=(j:Int):=(by omega);have QG:(j:Int)<(k:Int):=(by omega);have HD:=Xh4 F6 G7 X3 hl;clear F6 G7 X3 hl ht;rw[hjI]
      go_wp2_with (refine (Qhr W1.heap.size W1.heap.size _ t _ (Xo1 HD) (by have:=(Xe3 HD);omega) (Xo2 HD).size).mono ?_;rintro e w3 ⟨rfl,M0,Y2⟩;have O4:=Xh2 M0 Y2;clear M0 Y2)
      exact ⟨⟨j,rfl,by omega,by rw[(Xo0 HD)];exact .inr (Xo0 O4),(Xo2 HD).trans (Xe1 O4)⟩,by simp only[intOf];omega⟩
   ·have hno0:no≠0:=fun e=>hu ((Q51 (B:=2^64) (by decide)).1 (UC.1 (by rw[hW.len,e])));have hnoI:(0:Int)<(no:Int):=(by omega);have Q1:Bw wr (wr.alloc (.cells #[.int .u64 10000000000000000000] 83)):=Ba;have WI:=Qjf ao no co (dig (2^64) u) (some ⟨wr.heap.size,0,none⟩) 1 10000000000000000000 (wr.alloc (.cells #[.int .u64 10000000000000000000] 83)) (hW.step Q1) (Qf6 wr 10000000000000000000 (by decide) 83) (by omega) (by decide) (by rw[Q10 (by decide)];exact hu);rw[Q10 (by decide)] at WI;obtain ⟨q,hq⟩:∃q,u / 10000000000000000000=q:=⟨_,rfl⟩;obtain ⟨r,hr⟩:∃r,u%10000000000000000000=r:=⟨_,rfl⟩;rw[hq,hr] at WI;have hr19:r<10000000000000000000:=(by rw[<-hr];exact TH _ (by decide));have Xq:r<2^64:=Nat.lt_trans hr19 (by decide);have huq:u=q*10^19+r:=(by rw[<-hq,<-hr,UB];exact (TL u (10^19)).symm);have C7:=Qx.next hu huq hr19;have hqu:q<u:=(by rw[<-hq];exact Xbp (by omega) (by decide));have Wy:(dig (2^64) q).length<=64:=Uj (Q1w (by decide) (Xbi hqu)) (by rw[hW.len];exact C4);have XO:(dec r).length<=19:=dec_len 19 r hr19 (by decide);have hk:=Qx.len;have K6:k<=1281:=(by omega);have HDV:=Ua WI;have Yj:=Ua Q1;have Qu:=Ua hb;have HTB:=Ua (Xo1 H);have R4:∀y,al=some y->y.block<wr.heap.size:=fun y e=>by
     rcases K0.form with ⟨h0,_⟩|⟨g,cur,h0,_,hg,_⟩
     ·rw[h0] at e;cases e
     ·rw[h0] at e;injection e with e;subst e;exact hg
    have HAL:=Xh2 R4 hdis;clear R4 hdis;have HRW:=Ua (fun W (V7:Bw wr W)=>K0.call V7);have QZ:=Xh5 C7 hqu Wy hg hb;clear WI hq hr huq C7 hqu Wy K0 hb hW hg Q1 hk Qx
    by_cases XS:q=0
    ·by_cases D6:r=0
     ·skip;have JG:=Ua XS;have JQ:=Ua (show (0:Nat)=0 from rfl);clear XS;subst D6;have hS:(dec 0).length<=19:=XO;obtain ⟨t,ht⟩:∃t:LU,t=dec 0:=⟨_,rfl⟩;have J6:t.length<=40:=(by rw[ht];omega);have HT:=Ua ht
      go_wp2_with (first
       |(go_at_call_of 109 ao;refine HDV.out.mono ?_;rintro e w1 ⟨aq,nq,cq,ar,nr,cr,rfl,QU,Zv,C0,j6⟩;have Vs:=Ua (fun x (e:aq=some x)=>Uj Yj.out.size (j6 x e));clear j6;obtain rfl:nq=0:=by { have:=QU.len;rw[JG.out,Q14] at this;exact this.symm };obtain rfl:nr=0:=by { have:=Zv.len;rw[JQ.out,Q14] at this;exact this.symm };have I0:=Xh2 QU (Below.next0 Yj.out C0);clear QU Zv C0)
       |(refine (Qba 0 (by omega) _ (HTB.out _ (Below.next0 Qu.out (Xe1 I0)))).mono ?_;rintro e w2 ⟨rfl,D0⟩;have E1:=Xh2 ((Xo0 I0).step D0) (Below.next0 (Xe1 I0) D0);clear D0)
       |(at_builtin;refine Q0q rfl (.tmp 41) (.tmp 43) 39 rfl w _ 9 i0 _ 1 16 Tryz.underlying39 (Xo0 HI) (Xo1 HI) (Xo2 HI) (Xe3 HI) rfl (by decide) w.heap.size ((Below.next0 Qu.out (Xe1 E1)).alloc (Below.next0 Qu.out (Xe1 E1)).size _) ((Below.next0 Qu.out (Xe1 E1)).alloc (Below.next0 Qu.out (Xe1 E1)).size _).size al k cl _ rfl ((HRW.out _ (Xe1 E1)).alloc _) ⟨w2.heap.size,0,none⟩ 1 1 [sv (dec 0)] rfl rfl (Q3c w2 #[sv (dec 0)] _ _) (Qbb _) (k+1) rfl (by omega) (by omega) ?_;intro a3 c3 w5 Y7 Z8 P0 R5;have HO:=Xh4 Y7 P0 Z8 R5;clear Y7 Z8 P0 R5))
      go_roundg q
      case measure=>have h1:=(Xo1 QZ);have h2:=(Xo3 QZ);omega
      case rel=>
       have h1:=(Xo0 QZ);rw[Uu JG.out] at h1;have YM:0<=64:=(by have h3:=(Xo0 E1).len;have h4:=(Xo2 QZ);omega);have Vh:Row w5 w.heap.size 9 1 a3 (k+1) c3 ((xs++[t]).map sv):=by
        have h5:=(Xo0 HO);rw[Tq,HT.out];exact h5
       exact ⟨q,aq,0,cq,a3,k+1,c3,xs++[t],rfl,rfl,YM,⟨(Xo0 E1).len,(Xo0 E1).cap,(Xo0 E1).most,(Xo0 E1).low,.inl (by rw[JG.out];rfl)⟩,Vh,by rw[Ui,B4];rfl,by rw[HT.out];exact h1,rfl,(Xo1 HO),fun h=>absurd JG.out h⟩
     ·skip;have JG:=Ua XS;have JQ:=Ua D6;clear XS D6;have hS:(dec r).length<=19:=XO;obtain ⟨t,ht⟩:∃t:LU,t=dec r:=⟨_,rfl⟩;have J6:t.length<=40:=(by rw[ht];omega);have HT:=Ua ht
      go_wp2_with (first
       |(go_at_call_of 109 ao;refine HDV.out.mono ?_;rintro e w1 ⟨aq,nq,cq,ar,nr,cr,rfl,QU,Zv,C0,j6⟩;have Vs:=Ua (fun x (e:aq=some x)=>Uj Yj.out.size (j6 x e));clear j6;obtain rfl:nq=0:=by { have:=QU.len;rw[JG.out,Q14] at this;exact this.symm };have D3:=Qpo (d:=r) Xq JQ.out;rw[D3] at Zv;obtain rfl:nr=1:=Zv.len.symm;obtain ⟨gr,og,Wf,Z5,Ql⟩:=Zv.rd.at_ (k:=0) (x:=r) rfl;rw[TD] at Ql;subst Wf;have I0:=Xh2 QU (Below.next0 Yj.out C0);clear QU Zv C0)
       |(refine (Qba r (by omega) _ (HTB.out _ (Below.next0 Qu.out (Xe1 I0)))).mono ?_;rintro e w2 ⟨rfl,D0⟩;have E1:=Xh2 ((Xo0 I0).step D0) (Below.next0 (Xe1 I0) D0);clear D0)
       |(at_builtin;refine Q0q rfl (.tmp 41) (.tmp 43) 39 rfl w _ 9 i0 _ 1 16 Tryz.underlying39 (Xo0 HI) (Xo1 HI) (Xo2 HI) (Xe3 HI) rfl (by decide) w.heap.size ((Below.next0 Qu.out (Xe1 E1)).alloc (Below.next0 Qu.out (Xe1 E1)).size _) ((Below.next0 Qu.out (Xe1 E1)).alloc (Below.next0 Qu.out (Xe1 E1)).size _).size al k cl _ rfl ((HRW.out _ (Xe1 E1)).alloc _) ⟨w2.heap.size,0,none⟩ 1 1 [sv (dec r)] rfl rfl (Q3c w2 #[sv (dec r)] _ _) (Qbb _) (k+1) rfl (by omega) (by omega) ?_;intro a3 c3 w5 Y7 Z8 P0 R5;have HO:=Xh4 Y7 P0 Z8 R5;clear Y7 Z8 P0 R5))
      go_roundg q
      case measure=>have h1:=(Xo1 QZ);have h2:=(Xo3 QZ);omega
      case rel=>
       have h1:=(Xo0 QZ);rw[Uu JG.out] at h1;have YM:0<=64:=(by have h3:=(Xo0 E1).len;have h4:=(Xo2 QZ);omega);have Vh:Row w5 w.heap.size 9 1 a3 (k+1) c3 ((xs++[t]).map sv):=by
        have h5:=(Xo0 HO);rw[Tq,HT.out];exact h5
       exact ⟨q,aq,0,cq,a3,k+1,c3,xs++[t],rfl,rfl,YM,⟨(Xo0 E1).len,(Xo0 E1).cap,(Xo0 E1).most,(Xo0 E1).low,.inl (by rw[JG.out];rfl)⟩,Vh,by rw[Ui,B4];rfl,by rw[HT.out];exact h1,rfl,(Xo1 HO),fun h=>absurd JG.out h⟩
    ·by_cases D6:r=0
     ·skip;have JG:=Ua XS;have JQ:=Ua (show (0:Nat)=0 from rfl);clear XS;subst D6;obtain ⟨m,hm⟩:∃m,19-(dec 0).length=m:=⟨_,rfl⟩;have hmI:(19:Int)-((dec 0).length:Int)=(m:Int):=(by omega);have hm19:m<=19:=(by omega);have hrpl:(Lib.repeatL [48] m).length=m:=(by rw[Q6t,List.length_replicate]);have hdl19':(Lib.decDigits _).length<=19:=XO;have hrp:=fun W=>Tryz.J16 ⟨#[48]⟩ m W (by omega) (by show 1*m<=_;omega);obtain ⟨t,ht⟩:∃t:LU,t=List.replicate m 48++dec 0:=⟨_,rfl⟩;have J6:t.length<=40:=(by rw[ht];simp;omega);have HT:=Ua ht
      go_wp2_with (first
       |(go_at_call_of 109 ao;refine HDV.out.mono ?_;rintro e w1 ⟨aq,nq,cq,ar,nr,cr,rfl,QU,Zv,C0,j6⟩;have Vs:=Ua (fun x (e:aq=some x)=>Uj Yj.out.size (j6 x e));clear j6;have hnqI:(0:Int)<(nq:Int):=by { have h9:=QU.len;have h8:nq≠0:=fun e=>JG.out ((Q51 (B:=2^64) (by decide)).1 (UC.1 (by rw[h9,e])));omega };obtain rfl:nr=0:=by { have:=Zv.len;rw[JQ.out,Q14] at this;exact this.symm };have I0:=Xh2 QU (Below.next0 Yj.out C0);clear QU Zv C0)
       |(refine (Qba 0 (by omega) _ (HTB.out _ (Below.next0 Qu.out (Xe1 I0)))).mono ?_;rintro e w2 ⟨rfl,D0⟩;have E1:=Xh2 ((Xo0 I0).step D0) (Below.next0 (Xe1 I0) D0);clear D0)
       |(go_at_call_of 111 (Value.string ⟨#[48]⟩);refine (hrp _).mono ?_;rintro e w3 ⟨rfl,M0⟩;have B3:=Xh2 ((Xo0 E1).step M0) (Below.next0 (Xe1 E1) M0);clear M0)
       |(at_builtin;refine Q0q rfl (.tmp 41) (.tmp 43) 39 rfl w _ 9 i0 _ 1 16 Tryz.underlying39 (Xo0 HI) (Xo1 HI) (Xo2 HI) (Xe3 HI) rfl (by decide) w.heap.size ((Below.next0 Qu.out (Xe1 B3)).alloc (Below.next0 Qu.out (Xe1 B3)).size _) ((Below.next0 Qu.out (Xe1 B3)).alloc (Below.next0 Qu.out (Xe1 B3)).size _).size al k cl _ rfl ((HRW.out _ (Xe1 B3)).alloc _) ⟨w3.heap.size,0,none⟩ 1 1 [Value.string (⟨(Lib.repeatL [48] m).toArray⟩++⟨(dec 0).toArray⟩)] rfl rfl (Q3c w3 #[Value.string (⟨(Lib.repeatL [48] m).toArray⟩++⟨(dec 0).toArray⟩)] _ _) (Qbb _) (k+1) rfl (by omega) (by omega) ?_;intro a3 c3 w5 Y7 Z8 P0 R5;have HO:=Xh4 Y7 P0 Z8 R5;clear Y7 Z8 P0 R5))
      go_roundg q
      case measure=>have h1:=(Xo1 QZ);have h2:=(Xo3 QZ);omega
      case rel=>
       have h1:=(Xo0 QZ);rw[Uq JG.out,hm] at h1;have YM:nq<=64:=(by have h3:=(Xo0 B3).len;have h4:=(Xo2 QZ);omega);have Vh:Row w5 w.heap.size 9 1 a3 (k+1) c3 ((xs++[t]).map sv):=by
        have h5:=(Xo0 HO);rw[Tq,HT.out];rw[Q6t] at h5;have h6:∀(l r:LU),Value.string ((⟨l.toArray⟩:ByteArray)++⟨r.toArray⟩)=sv (l++r):=fun l r=>congrArg Value.string (ByteArray.ext (by simp[UM]));rw[h6] at h5;exact h5
       exact ⟨q,aq,nq,cq,a3,k+1,c3,xs++[t],rfl,rfl,YM,(Q9n (Xo0 B3) JG.out Vs.out (Xo0 HAL) (Xo2 HO) (Xe3 HO)).1,Vh,by rw[Ui,B4];rfl,by rw[HT.out];exact h1,rfl,(Xo1 HO),fun _=>(Q9n (Xo0 B3) JG.out Vs.out (Xo0 HAL) (Xo2 HO) (Xe3 HO)).2⟩
     ·skip;have JG:=Ua XS;have JQ:=Ua D6;clear XS D6;obtain ⟨m,hm⟩:∃m,19-(dec r).length=m:=⟨_,rfl⟩;have hmI:(19:Int)-((dec r).length:Int)=(m:Int):=(by omega);have hm19:m<=19:=(by omega);have hrpl:(Lib.repeatL [48] m).length=m:=(by rw[Q6t,List.length_replicate]);have hdl19':(Lib.decDigits _).length<=19:=XO;have hrp:=fun W=>Tryz.J16 ⟨#[48]⟩ m W (by omega) (by show 1*m<=_;omega);obtain ⟨t,ht⟩:∃t:LU,t=List.replicate m 48++dec r:=⟨_,rfl⟩;have J6:t.length<=40:=(by rw[ht];simp;omega);have HT:=Ua ht
      go_wp2_with (first
       |(go_at_call_of 109 ao;refine HDV.out.mono ?_;rintro e w1 ⟨aq,nq,cq,ar,nr,cr,rfl,QU,Zv,C0,j6⟩;have Vs:=Ua (fun x (e:aq=some x)=>Uj Yj.out.size (j6 x e));clear j6;have hnqI:(0:Int)<(nq:Int):=by { have h9:=QU.len;have h8:nq≠0:=fun e=>JG.out ((Q51 (B:=2^64) (by decide)).1 (UC.1 (by rw[h9,e])));omega };have D3:=Qpo (d:=r) Xq JQ.out;rw[D3] at Zv;obtain rfl:nr=1:=Zv.len.symm;obtain ⟨gr,og,Wf,Z5,Ql⟩:=Zv.rd.at_ (k:=0) (x:=r) rfl;rw[TD] at Ql;subst Wf;have I0:=Xh2 QU (Below.next0 Yj.out C0);clear QU Zv C0)
       |(refine (Qba r (by omega) _ (HTB.out _ (Below.next0 Qu.out (Xe1 I0)))).mono ?_;rintro e w2 ⟨rfl,D0⟩;have E1:=Xh2 ((Xo0 I0).step D0) (Below.next0 (Xe1 I0) D0);clear D0)
       |(go_at_call_of 111 (Value.string ⟨#[48]⟩);refine (hrp _).mono ?_;rintro e w3 ⟨rfl,M0⟩;have B3:=Xh2 ((Xo0 E1).step M0) (Below.next0 (Xe1 E1) M0);clear M0)
       |(at_builtin;refine Q0q rfl (.tmp 41) (.tmp 43) 39 rfl w _ 9 i0 _ 1 16 Tryz.underlying39 (Xo0 HI) (Xo1 HI) (Xo2 HI) (Xe3 HI) rfl (by decide) w.heap.size ((Below.next0 Qu.out (Xe1 B3)).alloc (Below.next0 Qu.out (Xe1 B3)).size _) ((Below.next0 Qu.out (Xe1 B3)).alloc (Below.next0 Qu.out (Xe1 B3)).size _).size al k cl _ rfl ((HRW.out _ (Xe1 B3)).alloc _) ⟨w3.heap.size,0,none⟩ 1 1 [Value.string (⟨(Lib.repeatL [48] m).toArray⟩++⟨(dec r).toArray⟩)] rfl rfl (Q3c w3 #[Value.string (⟨(Lib.repeatL [48] m).toArray⟩++⟨(dec r).toArray⟩)] _ _) (Qbb _) (k+1) rfl (by omega) (by omega) ?_;intro a3 c3 w5 Y7 Z8 P0 R5;have HO:=Xh4 Y7 P0 Z8 R5;clear Y7 Z8 P0 R5))
      go_roundg q
      case measure=>have h1:=(Xo1 QZ);have h2:=(Xo3 QZ);omega
      case rel=>
       have h1:=(Xo0 QZ);rw[Uq JG.out,hm] at h1;have YM:nq<=64:=(by have h3:=(Xo0 B3).len;have h4:=(Xo2 QZ);omega);have Vh:Row w5 w.heap.size 9 1 a3 (k+1) c3 ((xs++[t]).map sv):=by
        have h5:=(Xo0 HO);rw[Tq,HT.out];rw[Q6t] at h5;have h6:∀(l r:LU),Value.string ((⟨l.toArray⟩:ByteArray)++⟨r.toArray⟩)=sv (l++r):=fun l r=>congrArg Value.string (ByteArray.ext (by simp[UM]));rw[h6] at h5;exact h5
       exact ⟨q,aq,nq,cq,a3,k+1,c3,xs++[t],rfl,rfl,YM,(Q9n (Xo0 B3) JG.out Vs.out (Xo0 HAL) (Xo2 HO) (Xe3 HO)).1,Vh,by rw[Ui,B4];rfl,by rw[HT.out];exact h1,rfl,(Xo1 HO),fun _=>(Q9n (Xo0 B3) JG.out Vs.out (Xo0 HAL) (Xo2 HO) (Xe3 HO)).2⟩
theorem Qqq {w:World} {a:OA} {n c:Nat} {ls:LN} {neg:Bool} {exp:Int} (h:WordsIn w a n c ls) (hn:Q0a neg exp ls):ls=dig (2^64) (val (2^64) ls):=by
 have h1:trimL ls=ls:=by
  by_cases h0:ls=[]
  ·subst h0;rfl
  ·unfold Q0a at hn;rw[Uq h0] at hn;have h2:=Q3e ls;rw[hn.1,Tw] at h2;exact h2.symm
 have h3:=Q1r (B:=2^64) (by decide) h.low;rw[h1] at h3;exact h3
theorem Qfl (neg:Bool) (exp:Int) (a:OA) (n c:Nat) (ls:LN) (w:World) (h:WordsIn w a n c ls) (he: -9223372036854775808<=exp) (Q5:exp<=9223372036854775807) (t6:∀W,Bw w W->Lib.TabIs Tryz.prog W "internal/strconv.uint64pow10" .u64 Lib.pow10Tab):
 Calls Tryz.prog 38 #[.agg #[.bool neg,.int .i64 exp,.slice a n c]] w fun e w'=>e=.returned (sv (Q25 neg exp ls))/\Bw w w':=by
 have E3:=Uj h.cap h.most;have M2:Bw w (w.alloc (.cells #[.bool neg,.int .i64 exp,.slice a n c] 26)):=Ba;have hN:=Q03.new w (.bool neg) (.int .i64 exp) (.slice a n c) 26;have O2:=Q0o w (.cells #[.bool neg,.int .i64 exp,.slice a n c] 26);have hr:=Q1j neg exp a n c ls _ (h.step M2) he Q5 E3
 by_cases K1:Q0a neg exp ls
 ·have O8:Q25 neg exp ls=Q2a neg (val (2^64) ls) exp:=Uu K1;rw[O8];have S6:=K1.exp;have WS:n<=64:=by rw[<-h.len];exact S6.2.2
  rw[UW K1] at hr;have hdl:=Qh2 h WS;have ZV:=Qqq h K1;have hp:=fun W (hb:Bw w W)=>Qk2 a n c (val (2^64) ls) W (by rw[<-ZV];exact h.step hb) WS hdl (fun V hV=>t6 V (Below.next0 hb hV));generalize val (2^64) ls=v at*;have HR:=Xh5 hr hp hN M2 t6;clear hr hp O8 K1 h hN M2 ZV t6
  by_cases h0:exp=0
  ·subst h0;cases neg
   all_goals
    go_enter Tryz.func38,Tryz.ntmps38
    go_wp2_with (first
     |(go_at_call_of 68 a;refine ((Xo1 HR) _ I0.out).mono ?_;rintro e w3 ⟨rfl,M0⟩;have A2:=Below.next0 JQ.out M0;have hQ:=(Xo2 HR).step A2 O2;have J8:=hQ.c0;have O5:=hQ.c1;have B3:=Ua A2;clear M0 A2 hQ)
     |(refine (Xo0 HR).mono ?_;rintro e w1 ⟨rfl,C0⟩;have hQ:=(Xo2 HR).step C0 O2;have Q2:=hQ.c2;have I0:=Ua (Below.next0 (Xo3 HR) C0);have JQ:=Ua C0;clear C0 hQ))
    go_ret;refine ⟨?_,Below.next0 (Xo3 HR) B3.out⟩;refine congrArg Ending.returned (congrArg Value.string (ByteArray.ext ?_));simp[Q2a,Qa3]
  ·obtain ⟨m,hm⟩:∃m:Nat,exp.natAbs=m:=⟨_,rfl⟩;have KQ:0<m:=(by omega);have KC:m<=65536:=(by omega);have KJ:=dec_len 5 m (by omega) (by decide);have hml':(Lib.decDigits m).length<=5:=KJ;have h0I:((exp != 0):Bool)=true:=by rw[bne_iff_ne];exact h0
   by_cases Q6:exp<0
   ·skip;have i6:Lib.itoa exp=45::dec m:=(by { rw[show exp= -(m:Int) by omega];exact Lib.itoa_neg m KQ });have hitl:(Lib.itoa exp).length<=6:=(by { rw[i6];simp;omega });have HIT:=Xh2 i6 hm;clear i6 hm S6;cases neg
    all_goals
     go_enter Tryz.func38,Tryz.ntmps38
     go_wp2_with (first
      |(go_at_call_of 68 a;refine ((Xo1 HR) _ I0.out).mono ?_;rintro e w3 ⟨rfl,M0⟩;have A2:=Below.next0 JQ.out M0;have hQ:=(Xo2 HR).step A2 O2;have J8:=hQ.c0;have O5:=hQ.c1;have B3:=Ua A2;clear M0 A2 hQ)
      |(go_at_call_of 69 exp;refine (Tryz.J0n exp he Q5 _ ((Xe4 HR) _ (Below.next0 (Xo3 HR) B3.out))).mono ?_;rintro e w4 ⟨rfl,k4,os4,rfl⟩;have O4:=Ua (Below.next0 B3.out (below_grow k4 os4)))
      |(refine (Xo0 HR).mono ?_;rintro e w1 ⟨rfl,C0⟩;have hQ:=(Xo2 HR).step C0 O2;have Q2:=hQ.c2;have I0:=Ua (Below.next0 (Xo3 HR) C0);have JQ:=Ua C0;clear C0 hQ))
     go_ret;refine ⟨?_,Below.next0 (Xo3 HR) O4.out⟩;refine congrArg Ending.returned (congrArg Value.string (ByteArray.ext ?_));simp[UM,Q2a,Qa3,h0,Q6,(Xo0 HIT),(Xe1 HIT)]
   ·skip;have i6:Lib.itoa exp=dec m:=(by { rw[show exp=(m:Int) by omega];exact Lib.itoa_nonneg m });have hitl:(Lib.itoa exp).length<=6:=(by { rw[i6];exact Uj KJ (by decide) });have HIT:=Xh2 i6 hm;clear i6 hm S6;cases neg
    all_goals
     go_enter Tryz.func38,Tryz.ntmps38
     go_wp2_with (first
      |(go_at_call_of 68 a;refine ((Xo1 HR) _ I0.out).mono ?_;rintro e w3 ⟨rfl,M0⟩;have A2:=Below.next0 JQ.out M0;have hQ:=(Xo2 HR).step A2 O2;have J8:=hQ.c0;have O5:=hQ.c1;have B3:=Ua A2;clear M0 A2 hQ)
      |(go_at_call_of 69 exp;refine (Tryz.J0n exp he Q5 _ ((Xe4 HR) _ (Below.next0 (Xo3 HR) B3.out))).mono ?_;rintro e w4 ⟨rfl,k4,os4,rfl⟩;have O4:=Ua (Below.next0 B3.out (below_grow k4 os4)))
      |(refine (Xo0 HR).mono ?_;rintro e w1 ⟨rfl,C0⟩;have hQ:=(Xo2 HR).step C0 O2;have Q2:=hQ.c2;have I0:=Ua (Below.next0 (Xo3 HR) C0);have JQ:=Ua C0;clear C0 hQ))
     go_ret;refine ⟨?_,Below.next0 (Xo3 HR) O4.out⟩;refine congrArg Ending.returned (congrArg Value.string (ByteArray.ext ?_));simp[UM,Q2a,Qa3,h0,Q6,(Xo0 HIT),(Xe1 HIT)]
 ·have O8:Q25 neg exp ls=[]:=Uq K1;rw[O8];rw[UU K1] at hr;have HR:=Xh3 hr hN M2;clear hr O8 K1 h hN M2 t6
  go_enter Tryz.func38,Tryz.ntmps38
  go_wp2_with (refine (Xo0 HR).mono ?_;rintro e w1 ⟨rfl,C0⟩;have I0:=Ua (Below.next0 (Xe2 HR) C0);clear C0)
  go_ret;exact ⟨rfl,I0.out⟩
theorem Q8p:(Tryz.prog.info? 9).map (fun i=>(i.zero,i.size,i.bytes))=some (some (.string ⟨#[]⟩),1,16):=by kernel_rfl
def Qax (w:World):Prop:=∀W,Bw w W->Lib.TabIs Tryz.prog W "internal/strconv.uint64pow10" .u64 Lib.pow10Tab
theorem Qax.step {w w':World} (h:Qax w) (hb:Bw w w'):Qax w':=fun W hW=>h W (Below.next0 hb hW)
theorem Qhs:∀(E F:List Int) (i:Nat),Q1b i (E++F)=Q1b i E++Q1b (i+E.length) F
 |[],F,i=>by simp[Q1b]
 |k::r,F,i=>by
  rw[Xab,Q1b,Q1b,Qhs r F (i+1),UV,Ul];rw[show i+1+r.length=i+(r.length+1) by omega]
theorem Qed {E:List Int} {i:Nat} {k:Int} (h:E[i]?=some k):Q1b 0 (E.take (i+1))=Q1b 0 (E.take i)++Qal i k:=by
 have F0:=(Uh.1 h).1;rw[Tu,h,Qhs]
 congr 1
 show Q1b (0+(E.take i).length) [k]=_
 rw[UR,Xax (by omega),UH,Q1b,Q1b,Xao]
theorem Qad:∀(l:List (LU)),Lib.join l [42]=Q2o l
 |[]=>rfl
 |[x]=>by rw[Lib.join_one];rfl
 |x::y::r=>by
  rw[Lib.join_cons,Q2o,<-Qad (y::r),Lib.join_cons];simp[Lib.joinTail]
def Qod (w:World) (B:Nat) (a:OA) (n c:Nat) (ts:List (LU)):Prop:=Row w B 9 1 a n c (ts.map sv)
def Qw6 (w:World) (E:List Int) (s3 s10:Value) (wx:World):Prop:=∃(i:Nat) (a:OA) (n c:Nat),s3=.slice a n c/\s10=.int .i64 (i:Int)/\i<=E.length/\n<=i/\Qod wx w.heap.size a n c (Q1b 0 (E.take i))/\Bw w wx
theorem Qee (ty:TypeId) (w0 w:World) (hb:Bw w0 w) (a:OA) (n c:Nat) (ts:List (LU)) (hr:Qod w w0.heap.size a n c ts) (t:LU) (hn:n<=1000) (v:Value) (hv:v=sv t):
 ∃a' c' w',(Builtin.append_ #[39,39] ty #[.slice a n c,.slice (some ⟨w.heap.size,0,none⟩) 1 1]).run Tryz.prog (w.alloc (.cells #[v] 9))=.ok (.slice a' (n+1) c') w'/\Qod w' w0.heap.size a' (n+1) c' (ts++[t])/\Bw w0 w':=by
 subst hv;obtain ⟨i0,S2,E2,O1,Y1⟩:=Q0z Q8p;have D0:=hb.alloc hb.size (.cells #[sv t] 9);obtain ⟨a',c',w',C2,K0,Z5,Y0,_⟩:=Q5m w0 (w.alloc (.cells #[sv t] 9)) ty 39 9 i0 _ 1 16 Tryz.underlying39 S2 E2 O1 Y1 rfl (by decide) w0.heap.size D0 D0.size a n c _ (hr.alloc _) ⟨w.heap.size,0,none⟩ 1 1 [sv t] rfl (Tz (cs:= #[sv t]) (Up _ _)) (by simp[Value.oneCell',sv]) (n+1) rfl (by omega) (by omega);exact ⟨a',c',w',C2,by unfold Qod;rw[Tq];exact K0,Y0⟩
theorem Qef {v:Nat} {e:Int} (hv:v<(2^64)^64) (h1: -65536<=e) (h2:e<=65536):(Q2a false v e).length<=1400:=by
 have hd:=DecM.dec_len 1300 v (Uc hv Qgp) (by decide);have he:=DecM.dec_len 6 e.natAbs (by omega) (by decide);unfold Q2a Qa3;rw[Uq (by decide),Xaa,Ui]
 split
 ·simp;omega
 ·rw[Ul]
  split
  ·rw[Ul];omega
  ·omega
theorem Qnl {i:Nat} {k:Int} (hi:i<9) (h8:k<=8):∀t∈Qal i k,t.length<=4:=by
 intro t ht;unfold Qal at ht
 split at ht
 ·rw[Uy] at ht;subst ht;rw[Q1z (by omega)];simp
 ·split at ht
  ·rw[Uy] at ht;subst ht;rw[Q1z (by omega),Q1z (by omega)];simp
  ·cases ht
theorem Qnm (i:Nat) (k:Int):(Qal i k).length<=1:=by
 unfold Qal
 split
 ·simp
 ·split <;> simp
theorem Q6u:∀(E:List Int) (i:Nat),i+E.length<=9->(∀x∈E,x<=8)->(∀t∈Q1b i E,t.length<=4)/\(Q1b i E).length<=E.length
 |[],i,_,_=>⟨(fun t h=>by cases h),Ue _⟩
 |k::r,i,hi,h=>by
  rw[Ul] at hi;obtain ⟨h1,h2⟩:=Q6u r (i+1) (by omega) (fun x hx=>h x (by simp[hx]));rw[Q1b];refine ⟨fun t ht=>?_,?_⟩
  ·rcases Tl.1 ht with h3|h3
   ·exact Qnl (by omega) (h k (by simp)) t h3
   ·exact h1 t h3
  ·rw[Ui,Ul];have:=Qnm i k;omega
theorem Q9o {N:Nat}:∀(ts:List (LU)),(∀t∈ts,t.length<=N)->(Q2o ts).length<=ts.length*(N+1)
 |[],_=>by simp[Q2o]
 |[x],h=>by
  have:=h x (by simp);simp only[Q2o,Ul,UP];omega
 |x::y::r,h=>by
  have h1:=h x (by simp);have h2:=Q9o (y::r) (fun t ht=>h t (by simp[ht]));rw[Q2o,Ui,Ul];rw[Ul,Tj];omega
theorem Qck (ty:TypeId) (w0 w:World) (hb:Bw w0 w) (a:OA) (n c:Nat) (ts:List (LU)) (hr:Qod w w0.heap.size a n c ts) (B:Nat) (b:OA) (m d:Nat) (us:List (LU)) (hs:Qod w B b m d us) (hn:n+m<=1000):
 ∃a' c' w',(Builtin.append_ #[39,39] ty #[.slice a n c,.slice b m d]).run Tryz.prog w=.ok (.slice a' (n+m) c') w'/\Qod w' w0.heap.size a' (n+m) c' (ts++us)/\Bw w0 w':=by
 obtain ⟨i0,S2,E2,O1,Y1⟩:=Q0z Q8p;rcases hs.form with ⟨rfl,rfl,rfl,hu⟩|⟨g,cur,rfl,_⟩
 ·have hun:us=[]:=List.map_eq_nil_iff.1 hu;subst hun;exact ⟨a,c,w,Qci w _ ty _ i0 Tryz.underlying39 S2 a none n c 0 hr.cap.1,by simpa using hr,hb⟩
 ·have J0:∀j u,(us.map sv)[j]?=some u->w.cell? ((⟨g,0,none⟩:Addr).add j)=some u:=fun j u hj=>by
   obtain ⟨g',e,_,_,h⟩:=hs.at_ hj;injection e with e;injection e with e;subst e;rw[Addr.add_lit,UH];exact h
  obtain ⟨a',c',w',C2,K0,Z5,Y0,_⟩:=Q5m w0 w ty 39 9 i0 _ 1 16 Tryz.underlying39 S2 E2 O1 Y1 rfl (by decide) w0.heap.size hb hb.size a n c _ hr ⟨g,0,none⟩ m d (us.map sv) hs.len J0 (by intro u hu;obtain ⟨t,_,rfl⟩:=TE.1 hu;rfl) (n+m) rfl (by omega) (by omega);exact ⟨a',c',w',C2,by unfold Qod;rw[Tq];exact K0,Y0⟩
theorem Qcl {w:World} {B:Nat} {a:OA} {n c:Nat} {ts:List (LU)} (h:Qod w B a n c ts) (hn:n<=1000) (ht:∀t∈ts,t.length<=1400):
 Calls Tryz.prog 36 #[.slice a n c,.string ⟨#[42]⟩] w fun e w'=>e=.returned (sv (Q2o ts))/\Bw w w':=by
 have O0:ts.length=n:=by have:=h.len;simpa using this
 rcases h.form with ⟨rfl,rfl,rfl,hu⟩|⟨g,cur,rfl,_,hg,_⟩
 ·have hun:ts=[]:=List.map_eq_nil_iff.1 hu;subst hun;refine (Tryz.Qzh none 0 ⟨#[42]⟩ w).mono ?_;rintro e w' ⟨rfl,rfl⟩;exact ⟨rfl,Ud _ _⟩
 ·have K9:(ts.map fun t=>(⟨t.toArray⟩:ByteArray)).map (·.data.toList)=ts:=by
   rw[List.map_map];exact (List.map_congr_left fun t _=>by simp).trans (List.map_id ts)
  have hj:=Q9o ts ht;have u7:=Tryz.Qzi g 0 c (ts.map fun t=>(⟨t.toArray⟩:ByteArray)) ⟨#[42]⟩ w (fun j x hx=>by
   rw[UI] at hx;obtain ⟨t,I3,rfl⟩:=Option.map_eq_some_iff.1 hx;obtain ⟨g',e,_,_,h2⟩:=h.at_ (j:=j) (x:=sv t) (by rw[UI,I3];rfl);injection e with e;injection e with e;subst e;rw[UH];exact h2) hg (by rw[UE];omega) (by rw[UE,O0];exact h.cap.1) (by
   rw[K9]
   show (Lib.join ts [42]).length<=_
   rw[Qad];have:ts.length*1401<=1000*1401:=UT _ (by omega);omega)
  rw[K9,UE,O0] at u7;refine u7.mono ?_;rintro e w' ⟨rfl,hb⟩;refine ⟨?_,hb⟩
  show Ending.returned (.string ⟨(Lib.join ts [42]).toArray⟩)=_
  rw[Qad]
theorem Qcm {k:Nat} {m:Q01} (h:OkM k m) (hl:Low (2^64) m.ws):Qmk m.term.1=Q2m false m.exp m.ws/\dyT (Qmk m.term.1)=Q25 false m.exp m.ws/\Q0a false m.exp m.ws/\(Q25 false m.exp m.ws).length<=1400:=by
 obtain ⟨⟨h1,h2⟩,h3⟩:=h;rcases Q1f h2 hl with ⟨h4,_⟩|⟨_,ho,_,hv,g1,g2⟩
 ·exact absurd h4 h3
 have h5:Q0a false m.exp m.ws:=by
  unfold Q0a at h2⊢;rw[Uq h3] at h2⊢;exact h2
 have ha:Qmk m.term.1=Q2m false m.exp m.ws:=Qez ho;refine ⟨ha,?_,h5,?_⟩
 ·rw[ha,show Q25 false m.exp m.ws=Q2a false (val (2^64) m.ws) m.exp from Uu h5];exact Qey ho
 ·rw[show Q25 false m.exp m.ws=Q2a false (val (2^64) m.ws) m.exp from Uu h5];exact Qef hv g1 g2
theorem Qlr {e e':Int} {n':Bool} {L K:LN} (h1:Q0a false e L) (l1:Low (2^64) L) (h2:Q0a n' e' K) (l2:Low (2^64) K) (hv:Q2m n' e' K=dy 1 0):decide (false=n'/\e=e'/\L=K)=decide (Q2m false e L=1):=by
 refine decide_eq_decide.2 ⟨fun ⟨a,b,c⟩=>?_,fun h=>?_⟩
 ·subst a;subst b;subst c;rw[hv];rfl
 ·exact Qj4 h1 l1 h2 l2 (h.trans hv.symm)
theorem Qht [LT ZK] (k:Nat) (m:Q01) (a:OA) (l c:Nat) (b:OA) (n d:Nat) (w:World) (hw:WordsIn w a l c m.ws) (he:Q0p w b n d m.es) (X1:OkM k m) (ZU:k<=4) (hT:Q3r w) (hP:Qax w):
 Calls Tryz.prog 71 #[.agg #[.bool m.neg,.int .i64 m.exp,.slice a l c,.slice b n d]] w fun r w'=>r=.returned (sv (Q1t m.term))/\Bw w w':=by
 have hX:=Q50.new w (.bool m.neg) (.int .i64 m.exp) (.slice a l c) (.slice b n d) 98;have A2:Bw w (w.alloc (.cells #[.bool m.neg,.int .i64 m.exp,.slice a l c,.slice b n d] 98)):=Ba;have O6:=Q0o w (.cells #[.bool m.neg,.int .i64 m.exp,.slice a l c,.slice b n d] 98);have O0:=he.len;have XL:m.es.length<=4:=by have:=X1.1.1.1;omega
 have X4:=Q3p X1.1.1;have Q4:=he.cap;have Yn:=he.most;obtain ⟨e0,e1,e2⟩:=hX.cc;have e3:=hX.c3;have H:=Xh9 hw he X1 hT hP hX A2 O6 X4;clear hw he X1 hT hP hX A2 O6 X4
 go_enter Tryz.func71,Tryz.ntmps71
 go_wp2_with fail
 generalize R1:w.alloc (.cells #[.bool m.neg,.int .i64 m.exp,.slice a l c,.slice b n d] 98)=W1 at e0 e1 e2 e3 H⊢;clear R1
 go_loopw [3,10] (fun s3 s10 wr=>Qw6 W1 m.es s3 s10 wr) (fun _ iv _=>n-(intOf iv).toNat)
 case atStart=>exact ⟨0,none,0,0,rfl,rfl,Uv _,Ue _,Row.nil_ _ _ _ _,Ud _ _⟩
 case round=>
  obtain ⟨i,a3,n3,c3,rfl,rfl,hi,hn3,ZM,Z0⟩:=hrel
  by_cases F0:i<m.es.length
  ·have G0:(i:Int)<(n:Int):=(by omega);obtain ⟨x,hx⟩:∃x,m.es[i]?=some x:=⟨_,Ub F0⟩;obtain ⟨b0,o0,j5,Q0,Y4⟩:=(((Xo1 H).step (Xo6 H)).step Z0).rd.at_ hx;subst j5;obtain ⟨Y5,hx8⟩:=(Xe8 H) x (Ug hx);have Qi:=Qed hx;have i6:=Tryz.J0k (i+1) (by omega) wr;rw[show ((i+1:Nat):Int)=(i:Int)+1 by omega] at i6;obtain ⟨q,hq⟩:∃q,Lib.decDigits (i+1)=[q]:=⟨_,Q1z (by omega)⟩;rw[hq] at i6;have A7:wrap64 ((i:Int)+1)=(i:Int)+1:=(by unfold wrap64;omega);have HS:=Xh6 ZM Z0 Qi i6 hq hx;clear ZM Z0 Qi i6 hq hx
   by_cases h1:x=1
   ·subst h1;obtain ⟨a5,c5,w5,Ky,ZH,P0⟩:=Qee 39 W1 wr (Xo1 HS) a3 n3 c3 _ (Xo0 HS) [120,q] (by omega) (.string ⟨#[120,q]⟩) rfl;have H5:=Xh2 ZH P0;clear ZH P0
    go_wp2_with (first|(at_builtin;refine Q0d rfl (.tmp 18) (.tmp 23) 39 39 rfl _ _ rfl rfl _ _ Ky ?_)|(refine (Xo3 HS).mono ?_;rintro r w4 ⟨rfl,rfl⟩))
    refine ⟨⟨i+1,a5,n3+1,c5,rfl,congrArg (Value.int .i64) (by omega),F0,by omega,?_,(Xe1 H5)⟩,by simp only[intOf];omega⟩;rw[(Xo2 HS),show Qal i 1=[[120,q]] by rw[Qal,Uu rfl,show dec (i+1)=[q] from (Xo4 HS)]];exact (Xo0 H5)
   ·have h1':(x==1)=false:=beq_eq_false_iff_ne.2 h1
    by_cases h2:1<x
    ·obtain ⟨K,hK⟩:∃K:Nat,x=(K:Int):=⟨x.toNat,by omega⟩;subst hK;have XB:=Tryz.J0k K (by omega) wr;obtain ⟨q2,P6⟩:∃q2,Lib.decDigits K=[q2]:=⟨_,Q1z (by omega)⟩;rw[P6] at XB;obtain ⟨a5,c5,w5,Ky,ZH,P0⟩:=Qee 39 W1 wr (Xo1 HS) a3 n3 c3 _ (Xo0 HS) [120,q,94,q2] (by omega) (.string ⟨#[120,q,94,q2]⟩) rfl;have h1n:¬K=1:=(by omega);have h2n:1<K:=(by omega);have H5:=Xh6 ZH P0 XB P6 h1n h2n;clear ZH P0 XB P6 h1n h2n
     go_wp2_with (first|(at_builtin;refine Q0d rfl (.tmp 28) (.tmp 37) 39 39 rfl _ _ rfl rfl _ _ Ky ?_)|(go_at_call_of 37 (Value.int .i64 (K:Int));refine (Xo2 H5).mono ?_;rintro r w6 ⟨rfl,rfl⟩)|(refine (Xo3 HS).mono ?_;rintro r w4 ⟨rfl,rfl⟩))
     refine ⟨⟨i+1,a5,n3+1,c5,rfl,congrArg (Value.int .i64) (by omega),F0,by omega,?_,(Xo1 H5)⟩,by simp only[intOf];omega⟩;rw[(Xo2 HS),show Qal i (K:Int)=[[120,q,94,q2]] by
      rw[Qal,Uq h1,Uu h2,show dec (i+1)=[q] from (Xo4 HS),show (K:Int).toNat=K by omega,show dec K=[q2] from (Xo3 H5)];rfl]
     exact (Xo0 H5)
    ·have Jk:¬(1<x):=h2;have HX0:=Xh2 h1 h2;clear h1 h2
     go_wp2_with fail
     refine ⟨⟨i+1,a3,n3,c3,rfl,congrArg (Value.int .i64) (by omega),F0,by omega,?_,(Xo1 HS)⟩,by simp only[intOf];omega⟩;rw[(Xo2 HS),show Qal i x=[] by rw[Qal,Uq (Xo0 HX0),Uq (by have:=(Xe1 HX0);omega)],Xao];exact (Xo0 HS)
  ·have G0:¬((i:Int)<(n:Int)):=(by omega);have p8:i=m.es.length:=(by omega);rw[p8,Tw] at ZM;have HS:=Xh2 ZM Z0;clear ZM Z0 p8;have hlT:(Q1b 0 m.es).length=n3:=(by have:=(Xo0 HS).len;simpa using this);have hn3':n3<=4:=(by omega);have Ko:=Qmz m.neg m.exp a l c m.ws wr (((Xo0 H).step (Xo6 H)).step (Xe1 HS)) (Xo2 H).1.2 (Xo2 H).2;have f0:=((Xe1 HS).cell (p:=⟨w.heap.size,0,none⟩) (Xo7 H)).trans e0;have f1:=((Xe1 HS).cell (p:=⟨w.heap.size,1,none⟩) (Xo7 H)).trans e1;have f2:=((Xe1 HS).cell (p:=⟨w.heap.size,2,none⟩) (Xo7 H)).trans e2;have F7:=(Xo0 H).low;obtain ⟨g1,g2,g3,g4⟩:=Qcm (Xo2 H) F7;have Vc:=(Q6u m.es 0 (by omega) (fun x hx=>((Xe8 H) x hx).2)).1;have A1:∀t∈[Q25 false m.exp m.ws]++Q1b 0 m.es,t.length<=1400:=fun t ht=>by
    rcases Tl.1 ht with h|h
    ·rw[Uy] at h;rw[h];exact g4
    ·have:=Vc t h;omega
   have HA:=Xh6 Ko hlT g1 g2 g3 A1;clear Ko hlT g1 g2 g3 g4 Vc A1 F7
   by_cases I8:Q1b 0 m.es=[]
   ·have ZZ:((n3:Int)==0)=true:=(by rw[<-(Xo1 HA),I8];rfl);have HT0:=Ua I8;clear I8
    go_upto_region 11 with (go_at_call_of 112 (Value.agg #[.bool m.neg,.int .i64 m.exp,.slice a l c]);refine (Xo0 HA).mono ?_;rintro r w4 ⟨a4,l4,c4,rfl,Je,Y2⟩;have H4:=Xh2 Je Y2;clear Je Y2)
    go_quiet (fail)
    have S7:Bw W1 ((w4.alloc (.cells #[.bool false,.int .i64 m.exp,.slice a4 l4 c4] 26)).drewN nq):=Below.drewN' ((Below.next0 (Xe1 HS) (Xe1 H4)).alloc (Below.next0 (Xe1 HS) (Xe1 H4)).size _) _;have hN:=Q03.new w4 (.bool false) (.int .i64 m.exp) (.slice a4 l4 c4) 26;have Xw:WordsIn ((w4.alloc (.cells #[.bool false,.int .i64 m.exp,.slice a4 l4 c4] 26)).drewN nq) a4 l4 c4 m.ws:=(Xo0 H4).toWordsIn.step (Below.drewN' (Ba) _);have Yw:Qod ((w4.alloc (.cells #[.bool false,.int .i64 m.exp,.slice a4 l4 c4] 26)).drewN nq) W1.heap.size a3 n3 c3 (Q1b 0 m.es):=((Xo0 HS).call (Xe1 H4)).alloc _;generalize QU:(w4.alloc (.cells #[.bool false,.int .i64 m.exp,.slice a4 l4 c4] 26)).drewN nq=Wq at S7 Xw Yw⊢;have n0:Wq.cell? ⟨w4.heap.size,0,none⟩=some (.bool false):=(by rw[<-QU];exact hN.c0);have n1:Wq.cell? ⟨w4.heap.size,1,none⟩=some (.int .i64 m.exp):=(by rw[<-QU];exact hN.c1);have n2:Wq.cell? ⟨w4.heap.size,2,none⟩=some (.slice a4 l4 c4):=(by rw[<-QU];exact hN.c2);clear QU;have O8:=Qfl false m.exp a4 l4 c4 m.ws Wq Xw (by have:=Q31 (Xo4 HA) (Xo0 H4).toWordsIn;omega) (by have:=Q31 (Xo4 HA) (Xo0 H4).toWordsIn;omega) ((Xo4 H).step (Below.next0 (Xo6 H) S7));have HQ:=Xh3 S7 Yw O8;clear S7 Xw Yw O8 hN
    go_wp2_with (first
     |(go_at_call_of 38 (Value.agg #[.bool false,.int .i64 m.exp,.slice a4 l4 c4]);refine (Xe2 HQ).mono ?_;rintro r w7 ⟨rfl,N7⟩
       have JT:=Below.next0 (Xo0 HQ) N7;obtain ⟨a8,c8,w8,O3,VA,G5⟩:=Qck 39 W1 (w7.alloc (.cells #[sv (Q25 false m.exp m.ws)] 9)) (JT.alloc JT.size _) (some ⟨w7.heap.size,0,none⟩) 1 1 [Q25 false m.exp m.ws] ((Row.lit w7 (Ue _) 9 1 #[sv (Q25 false m.exp m.ws)] 1 (by decide) rfl).lower JT.size) W1.heap.size a3 n3 c3 (Q1b 0 m.es) (((Xo1 HQ).call N7).alloc _) (by omega);have G3:1+n3<=1000:=(by omega);generalize 1+n3=N8 at O3 VA G3;have O9:=Qcl VA G3 (Xe5 HA);have H8:=Xh2 O9 G5;clear N7 JT VA G5 O9)
     |(at_builtin;refine Q0d rfl (.tmp 54) (.tmp 55) 39 39 rfl _ _ rfl rfl _ _ O3 ?_)
     |(go_at_call_of 36 (Value.slice a8 N8 c8);refine (Xo0 H8).mono ?_;rintro r w9 ⟨rfl,N3⟩;have H9:=Ua N3;clear N3))
    go_ret;refine ⟨?_,Below.next0 (Xo6 H) (Below.next0 (Xe1 H8) H9.out)⟩;rw[Q1t,Q3o,Uu (by exact .inl HT0.out),(Xo3 HA)];rfl
   ·have ZZ:((n3:Int)==0)=false:=by
     rw[Uk];intro e;exact I8 (TN (by rw[(Xo1 HA)];omega))
    have HT0:=Ua I8;clear I8
    go_upto_region 11 with (go_at_call_of 112 (Value.agg #[.bool m.neg,.int .i64 m.exp,.slice a l c]);refine (Xo0 HA).mono ?_;rintro r w4 ⟨a4,l4,c4,rfl,Je,Y2⟩;have H4:=Xh2 Je Y2;clear Je Y2)
    have S7:Bw W1 (w4.alloc (.cells #[.bool false,.int .i64 m.exp,.slice a4 l4 c4] 26)):=(Below.next0 (Xe1 HS) (Xe1 H4)).alloc (Below.next0 (Xe1 HS) (Xe1 H4)).size _;have hN:=Q03.new w4 (.bool false) (.int .i64 m.exp) (.slice a4 l4 c4) 26;have Xw:WordsIn (w4.alloc (.cells #[.bool false,.int .i64 m.exp,.slice a4 l4 c4] 26)) a4 l4 c4 m.ws:=(Xo0 H4).toWordsIn.step (Ba);have Yw:Qod (w4.alloc (.cells #[.bool false,.int .i64 m.exp,.slice a4 l4 c4] 26)) W1.heap.size a3 n3 c3 (Q1b 0 m.es):=((Xo0 HS).call (Xe1 H4)).alloc _;have hlq:=Q0o w4 (.cells #[.bool false,.int .i64 m.exp,.slice a4 l4 c4] 26);generalize QU:w4.alloc (.cells #[.bool false,.int .i64 m.exp,.slice a4 l4 c4] 26)=Wq at S7 hN Xw Yw hlq⊢;clear QU;obtain ⟨n0,n1,n2⟩:=hN.cc;have HQ:=Xh5 S7 hN Xw Yw hlq;clear S7 hN Xw Yw hlq
    go_cut [51] (fun v wx=>∃bb,v=.bool bb/\(!decide (Q2m false m.exp m.ws=1))=bb/\Bw Wq wx)
    case first=>
     go_region_with (first
      |(go_at_call_of 113 (Value.int .i64 1)
        refine (Qdy 1 _ (by decide) (((Xo3 H).step (Below.next0 (Xo6 H) (Xo0 HQ))).step (by first|exact Ud _ _|exact Q04 _))).mono ?_;rintro r w5 ⟨n5,e5,a5,l5,c5,L5,rfl,hi5,Yt,hw5,P0⟩;have KT:Bw Wq w5:=by first|exact P0|exact Below.next0 (Q04 _) P0
        have k0:=(KT.cell (p:=⟨w4.heap.size,0,none⟩) (Xe4 HQ)).trans n0;have k1:=(KT.cell (p:=⟨w4.heap.size,1,none⟩) (Xe4 HQ)).trans n1;have k2:=(KT.cell (p:=⟨w4.heap.size,2,none⟩) (Xe4 HQ)).trans n2;have X4:=Qbn false m.exp a4 l4 c4 m.ws n5 e5 a5 l5 c5 L5;have KI:=Qlr (Xo4 HA) (Xo2 HQ).low hi5 hw5.toWordsIn.low Yt;have H5:=Xh4 KT hw5 X4 KI;clear P0 KT hw5 X4 KI hi5 Yt)
      |(go_at_call_of 30 (Value.agg #[.bool false,.int .i64 m.exp,.slice a4 l4 c4])
        refine ((Xo2 H5) _ (((Xo2 HQ).step (Xo0 H5)).step (by first|exact Ud _ _|exact Q04 _)) ((Xo1 H5).toWordsIn.step (by first|exact Ud _ _|exact Q04 _)) (by have:=Q31 (Xo4 HA) (Xo2 HQ);omega)).mono ?_;rintro r w6 ⟨rfl,N4⟩;rw[(Xe3 H5)];have hb6':Bw Wq w6:=by first|exact Below.next0 (Xo0 H5) N4|exact Below.next0 (Xo0 H5) (Below.next0 (Q04 _) N4)
        have H6:=Ua hb6';clear N4 hb6'))
     all_goals go_wp2_with fail
     all_goals go_meet
     all_goals exact ⟨_,rfl,rfl,H6.out⟩
    case rest=>
     obtain ⟨bb,rfl,C3,Wv⟩:=hcut;have r0:=(Wv.cell (p:=⟨w4.heap.size,0,none⟩) (Xe4 HQ)).trans n0;have r1:=(Wv.cell (p:=⟨w4.heap.size,1,none⟩) (Xe4 HQ)).trans n1;have r2:=(Wv.cell (p:=⟨w4.heap.size,2,none⟩) (Xe4 HQ)).trans n2;have Y0:=Below.next0 (Xo0 HQ) Wv;have hsc:Qod wc W1.heap.size a3 n3 c3 (Q1b 0 m.es):=(Xo3 HQ).call Wv;have hwc:=(Xo2 HQ).step Wv;clear n0 n1 n2;cases bb with
     |false=>
      have h1:Q2m false m.exp m.ws=1:=(by simpa using C3);have O9:=Qcl hsc (by omega) (fun t ht=>(Xe5 HA) t (by simp[ht]));have HR:=Xh3 h1 O9 Y0;clear h1 O9 Y0 hsc hwc C3 Wv
      go_wp2_with (go_at_call_of 36 (Value.slice a3 n3 c3);refine (Xo1 HR).mono ?_;rintro r w9 ⟨rfl,N3⟩;have H9:=Ua N3;clear N3)
      go_ret;refine ⟨?_,Below.next0 (Xo6 H) (Below.next0 (Xe2 HR) H9.out)⟩;rw[Q1t,Q3o,Uq (by
       rintro (h|h)
       ·exact HT0.out h
       ·exact h ((Xo2 HA).trans (Xo0 HR)))]
      rfl
     |true=>
      have h1:Q2m false m.exp m.ws≠1:=(by simpa using C3);have O8:=Qfl false m.exp a4 l4 c4 m.ws wc hwc (by have:=Q31 (Xo4 HA) hwc;omega) (by have:=Q31 (Xo4 HA) hwc;omega) ((Xo4 H).step (Below.next0 (Xo6 H) Y0));have HR:=Xh4 Y0 hsc O8 h1;clear h1 O8 Y0 hsc hwc C3 Wv
      go_wp2_with (first
       |(go_at_call_of 38 (Value.agg #[.bool false,.int .i64 m.exp,.slice a4 l4 c4]);refine (Xo2 HR).mono ?_;rintro r w7 ⟨rfl,N7⟩
         have JT:=Below.next0 (Xo0 HR) N7;obtain ⟨a8,c8,w8,O3,VA,G5⟩:=Qck 39 W1 (w7.alloc (.cells #[sv (Q25 false m.exp m.ws)] 9)) (JT.alloc JT.size _) (some ⟨w7.heap.size,0,none⟩) 1 1 [Q25 false m.exp m.ws] ((Row.lit w7 (Ue _) 9 1 #[sv (Q25 false m.exp m.ws)] 1 (by decide) rfl).lower JT.size) W1.heap.size a3 n3 c3 (Q1b 0 m.es) (((Xo1 HR).call N7).alloc _) (by omega);have G3:1+n3<=1000:=(by omega);generalize 1+n3=N8 at O3 VA G3;have O9:=Qcl VA G3 (Xe5 HA);have H8:=Xh2 O9 G5;clear N7 JT VA G5 O9)
       |(at_builtin;refine Q0d rfl (.tmp 54) (.tmp 55) 39 39 rfl _ _ rfl rfl _ _ O3 ?_)
       |(go_at_call_of 36 (Value.slice a8 N8 c8);refine (Xo0 H8).mono ?_;rintro r w9 ⟨rfl,N3⟩;have H9:=Ua N3;clear N3))
      go_ret;refine ⟨?_,Below.next0 (Xo6 H) (Below.next0 (Xe1 H8) H9.out)⟩;rw[Q1t,Q3o,Uu (by exact .inr fun h=>(Xe3 HR) ((Xo2 HA).symm.trans h)),(Xo3 HA)];rfl
end Go.Proofs.YtidojbkhlenahaaGreatDoor
namespace Go.Proofs.YtidojbkhlenahaaGreatDoor
open Go.RowKit
theorem Qqr (B b:Nat) (l:LU) (w:World) (h:Lib.IsBuilder 57 5 B b (Lib.byteCells l) w):
 Calls Tryz.prog 65 #[.pointer (some ⟨b,0,none⟩)] w fun e w'=>e=.returned (.tuple #[])/\Q3n B b (.pointer (some ⟨b,0,none⟩)) l w'/\Below B w w'/\w'.heap.size=w.heap.size/\∀k,k≠b->w'.heap[k]?=w.heap[k]?:=by
 rcases h with h|h
 ·refine (Qeb b w h.cell0 h.shape h.frozen0).mono ?_;rintro e w' ⟨rfl,rfl⟩;exact ⟨rfl,h.used _,(Ud B w).setCell (p:=⟨b,0,none⟩) h.1 _,by simp,fun k hk=>UX _ _ _ _ hk⟩
 ·refine (Qhq b w h.cell0).mono ?_;rintro e w' ⟨rfl,rfl⟩;exact ⟨rfl,h,Ud B _,rfl,fun _ _=>rfl⟩
theorem Q2l (B b:Nat) (l t:LU) (w:World) (h:Lib.IsBuilder 57 5 B b (Lib.byteCells l) w) (O0:l.length+t.length<=140737488355328) (hBw:B<=w.heap.size):
 Calls Tryz.prog 35 #[.pointer (some ⟨b,0,none⟩),sv t] w fun e w'=>e=.returned (.tuple #[.int .i64 (t.length:Int),.nilIface])/\Q3n B b (.pointer (some ⟨b,0,none⟩)) (l++t) w'/\Below B w w'/\∀k cur T fr,w.heap[k]?=some (.cells cur T fr)->T≠5->k≠b->w'.heap[k]?=w.heap[k]?:=by
 obtain ⟨i0,hi,E2,O1,Y1⟩:=Xbn Qog;have HI:=Ua h;clear h
 go_enter Tryz.func35,Tryz.ntmps35
 go_wp2_with (refine (Qqr B b l _ HI.out).mono ?_)
 rintro e w1 ⟨rfl,h1,C0,F2,hkp⟩;obtain ⟨hB,v,S5,J4,C1⟩:=h1;have Kr:B<=w1.heap.size:=by omega
 have HSZ:=Xh2 F2 hkp;clear F2 hkp;have c0:w1.cell? ⟨b,0,none⟩=some (.pointer (some ⟨b,0,none⟩)):=by rw[Lib.cell_of_heap S5];rfl
 have c1:w1.cell? ⟨b,1,none⟩=some v:=by rw[Lib.cell_of_heap S5];rfl
 have F0:b<w1.heap.size:=(Uo.1 S5).1;have HBK:=Ua S5;have F1:(Lib.byteCells l).length+(⟨t.toArray⟩:ByteArray).size<=140737488355328:=by rw[Lib.byteCells_length];exact O0
 have E3:(Lib.byteCells l).length+(⟨t.toArray⟩:ByteArray).size<=maxLen:=by unfold maxLen;omega
 clear S5
 go_wp2_with (at_builtin;refine Lib.wpList_append_own_string _ rfl _ _ 55 9 rfl B 5 i0 Tryz.underlying55 Tryz.underlying9 hi E2 O1 Y1 _ _ _ rfl J4 ⟨t.toArray⟩ rfl E3 F1 Kr ?_)
 intro v' w2 L7 J3 _;have D0:w2.heap[b]?=some (.cells #[.pointer (some ⟨b,0,none⟩),v] 57 (0,0)):=by
  rw[J3.block b F0 (fun e=>C1 e.symm)];exact HBK.out
 have d0:w2.cell? ⟨b,0,none⟩=some (.pointer (some ⟨b,0,none⟩)):=by rw[Lib.cell_of_heap D0];rfl
 have d1:w2.cell? ⟨b,1,none⟩=some v:=by rw[Lib.cell_of_heap D0];rfl
 have f1:w2.frozen? ⟨b,1,none⟩=false:=Lib.frozen_of_heap D0 1;obtain ⟨ao,n',cap,rfl⟩:∃ao n' cap,v'=.slice ao n' cap:=by
  rcases L7.2 with ⟨hv,_⟩|⟨g,cap,cur,hv,_⟩
  ·exact ⟨_,_,_,hv⟩
  ·exact ⟨_,_,_,hv⟩
 have HE:=Xh4 D0 L7 J3 C0;clear D0 L7 J3 C0 F1 E3
 go_wp2_with fail
 go_ret2
 obtain ⟨D0,L7,J3,C0⟩:=HE.out;refine ⟨rfl,?_,?_,fun k cur T fr hk hT hkb=>?_⟩
 ·refine Lib.BuilderAt.put (T:=57) (e:=5) hB D0 (bs':=Lib.byteCells (l++t)) ?_ (by decide);rw[Q9m];have e1:Lib.strCells ⟨t.toArray⟩=Lib.byteCells t:=rfl;rw[<-e1,Ui,Lib.strCells_length];exact L7
 ·exact (C0.grown J3 (by omega) (fun k hk=>(J4.lt k hk).1)).setCell (p:=⟨b,1,none⟩) hB _
 ·have S3:w1.heap[k]?=w.heap[k]?:=(Xe1 HSZ) k hkb;have hklt:k<w1.heap.size:=(Uo.1 (S3.trans hk)).1;rw[UX _ _ _ _ hkb,J3.block k hklt (fun e=>?_),S3];rcases J4.2 with ⟨hv,_⟩|⟨g,cap,cur2,hv,_,hh,_⟩
  ·rw[hv] at e;simp[Value.ownBlock] at e
  ·rw[hv] at e;simp only[Value.ownBlock,Un] at e;subst e;rw[S3,hk] at hh;injection hh with hh;injection hh with _ hh _;exact hT hh
open DecM WordsM
theorem Q6v (P:List Q0m):∀(F:List (List Q0m)) (i:Nat),Q1d i (F++[P])=Q1d i F++Q5q (i+F.length) P
 |[],i=>by simp[Q1d]
 |Q::F,i=>by
  rw[Xab,Q1d,Q6v P F (i+1),Q1d,UV,Ul,show i+1+F.length=i+(F.length+1) by omega]
theorem Q8q (p:Q0m):∀(l:List Q0m) (b:Bool),Q0w b (l++[p])=Q0w b l++(Q30 (b && l.isEmpty) p++Q1t p)
 |[],b=>by simp[Q0w]
 |q::l,b=>by
  rw[Xab,Q0w,Q8q p l false,Q0w];simp
theorem Q65 {α:Type} {l:List α} {i:Nat} {x:α} (h:l[i]?=some x):l.take (i+1)=l.take i++[x]:=by rw[Tu,h];rfl
def Q0x (F:List (List Q01)):List (List Q0m):=F.map (List.map Q01.term)
theorem Qeg {F:List (List Q01)} {i:Nat} {ms:List Q01} (h:F[i]?=some ms):(Q0x F)[i]?=some (ms.map Q01.term):=by unfold Q0x;rw[UI,h];rfl
theorem Qhu {k:Nat} {m:Q01} (h:OkM k m) (hl:Low (2^64) m.ws):Q2s m.term.1=m.neg:=by
 obtain ⟨⟨h1,h2⟩,h3⟩:=h;rcases Q1f h2 hl with ⟨h4,_⟩|⟨_,ho,_,hv,g1,g2⟩
 ·exact absurd h4 h3
 ·exact Q7x ho
theorem Qk3 {k:Nat} {m:Q01} (h:OkM k m) (hk:k<=4) (hl:Low (2^64) m.ws):(Q1t m.term).length<=7005:=by
 obtain ⟨_,g2,_,g4⟩:=Qcm h hl;have O0:m.es.length<=4:=by have:=h.1.1.1;omega
 obtain ⟨h1,h2⟩:=Q6u m.es 0 (by omega) (fun x hx=>(Q3p h.1.1 x hx).2);have A1:∀t∈Q3o m.term,t.length<=1400:=fun t ht=>by
  unfold Q3o at ht
  split at ht
  ·rcases UD.1 ht with rfl|ht
   ·rw[g2];exact g4
   ·have:=h1 t ht;omega
  ·have:=h1 t ht;omega
 have X6:(Q3o m.term).length<=5:=by
  have Jk:(Q1b 0 m.term.2).length<=4:=Uj h2 O0;unfold Q3o
  split
  ·rw[Ul];omega
  ·omega
 have:=Q9o _ A1;have:(Q3o m.term).length*1401<=5*1401:=UT _ X6
 show (Q2o (Q3o m.term)).length<=_
 omega
theorem Qk4 (b:Bool) (p:Q0m):(Q30 b p).length<=3:=by
 unfold Q30
 split <;> split <;> decide
theorem Qhv {T:List Q0m} (h:∀p∈T,(Q1t p).length<=7005):∀b,(Q0w b T).length<=T.length*7008:=by
 induction T with
 |nil=>intro b;simp[Q0w]
 |cons p r ih=>
  intro b;have h1:=h p (by simp);have h2:=Qk4 b p;have h3:=ih (fun q hq=>h q (by simp[hq])) false;rw[Q0w,Ui,Ui,Ul,Tj];omega
def Qqs (F:List (List Q01)):Prop:=∀ms∈F,ms.length<=24/\∀m∈ms,(Q1t m.term).length<=7005
theorem Q6w {ms:List Q01} (h:ms.length<=24/\∀m∈ms,(Q1t m.term).length<=7005) (k:Nat):(Q0w true ((ms.map Q01.term).take k)).length<=168192:=by
 have h1:=Qhv (T:=(ms.map Q01.term).take k) (fun p hp=>by
  obtain ⟨m,hm,rfl⟩:=TE.1 (Td hp);exact h.2 m hm) true
 have h2:((ms.map Q01.term).take k).length<=24:=by rw[UR,UE];omega
 have:=UT 7008 h2;omega
theorem Qk5 {ms:List Q01} (h:ms.length<=24/\∀m∈ms,(Q1t m.term).length<=7005) {i:Nat} (hi:i<9):(Q5q i (ms.map Q01.term)).length<=168200:=by
 have h1:=Q6w h ms.length;have h0:(ms.map Q01.term).length=ms.length:=UE ..;rw[<-h0,Tw] at h1;have h2:=Q7z i hi;unfold Q5q Q5p;rw[Ui,Ui,h2]
 split
 ·simp
 ·simp only[Ul,UP];omega
theorem Q5i {F:List (List Q01)} (h:Qqs F):∀i,i+F.length<=9->(Q1d i (Q0x F)).length<=F.length*168200:=by
 induction F with
 |nil=>intro i _;simp[Q1d,Q0x]
 |cons ms r ih=>
  intro i hi;rw[Ul] at hi;have h1:=Qk5 (h ms (by simp)) (i:=i) (by omega);have h2:=ih (fun x hx=>h x (by simp[hx])) (i+1) (by omega)
  show (Q5q i (ms.map Q01.term)++Q1d (i+1) (Q0x r)).length<=_
  rw[Ui,Ul,Tj];omega
theorem Qbc [LT ZK] {w:World} {a:OA} {n c:Nat} {F:List (List Q01)} (h:Q1a w a n c F) (hR:Q1u F):Qqs F:=by
 intro ms V5;obtain ⟨_,h4,hr⟩:=hR;obtain ⟨r1,r2,r3,r4,r5⟩:=hr ms V5;refine ⟨r3,fun m hm=>Qk3 (r4 m hm) h4 ?_⟩;obtain ⟨h1,h2,h3,h0|⟨b,o,_,_,hF⟩⟩:=h
 ·rw[h0] at V5;cases V5
 obtain ⟨i,hi⟩:=US.1 V5;obtain ⟨p,l,d,_,hM⟩:=hF i ms hi;obtain ⟨_,_,_,h0|⟨b2,o2,_,_,hM⟩⟩:=hM
 ·rw[h0] at hm;cases hm
 obtain ⟨j,hj⟩:=US.1 hm;obtain ⟨_,_,_,_,_,_,_,_,_,_,hw,_⟩:=hM j m hj;exact hw.low
def Qw7 (w1:World) (F:List (List Q01)) (s13:Value) (wr:World):Prop:=∃i:Nat,s13=.int .i64 (i:Int)/\i<=F.length/\Q5s w1.heap.size w1.heap.size (Q1d 0 ((Q0x F).take i)) wr/\Bw w1 wr
def Qls (w1:World) (L0:LU) (ms:List Q01) (s27:Value) (wr:World):Prop:=∃k:Nat,s27=.int .i64 (k:Int)/\k<=ms.length/\Q5s w1.heap.size w1.heap.size (L0++Q0w true ((ms.map Q01.term).take k)) wr/\Bw w1 wr
theorem Q3n.build {B b:Nat} {l:LU} {w:World} (h:Q3n B b (.pointer (some ⟨b,0,none⟩)) l w):Q5s B b l w:=.inr h
theorem Qfm [LT ZK] (a:OA) (n c:Nat) (F:List (List Q01)) (w:World) (h:Q1a w a n c F) (hT:Q3r w) (hP:Qax w):
 Calls Tryz.prog 40 #[.slice a n c] w fun r w'=>(Q1u F->r=.returned (sv (Q1d 0 (Q0x F))))/\(¬Q1u F->r=.returned (sv []))/\Bw w w':=by
 have j6:=Q8c a n c F w h
 by_cases hR:Q1u F
 case neg=>
  have H:=Xh2 j6 hR;clear j6 h hT hP hR
  go_enter Tryz.func40,Tryz.ntmps40
  go_wp2_with (go_at_call_of 18 (Value.slice a n c);refine (Xo0 H).mono ?_;rintro r w1 ⟨⟨bb,rfl,S8⟩,C0⟩;obtain rfl:bb=false:=by { cases bb with|false=>rfl|true=>exact absurd (S8.1 rfl) (Xe1 H) };have H1:=Ua C0;clear S8 C0)
  go_ret;exact ⟨fun h=>absurd h (Xe1 H),fun _=>rfl,H1.out⟩
 case pos=>
 have Qg:=Qbc h hR;have P2:=h.1;have X9:n<=4:=by have:=hR.2.1;omega
 have H:=Xh6 j6 hR h hT hP Qg;clear j6 h hT hP Qg
 go_enter Tryz.func40,Tryz.ntmps40
 go_wp2_with (go_at_call_of 18 (Value.slice a n c);refine (Xo0 H).mono ?_;rintro r w1 ⟨⟨bb,rfl,S8⟩,C0⟩;obtain rfl:bb=true:=S8.2 (Xo1 H);have H1:=Ua C0;clear S8 C0)
 have R4:Bw w1 (w1.alloc (.cells #[.pointer none,.slice none 0 0] 57)):=Ba;have Kj:=Q5s.new w1.heap.size w1 (Ue _);have HB:=Xh2 R4 Kj;clear R4 Kj hR;generalize w1.alloc (.cells #[.pointer none,.slice none 0 0] 57)=W2 at HB⊢
 rename World=>W2
 go_loopw [13] (fun s13 wr=>Qw7 w1 F s13 wr) (fun iv _=>n-(intOf iv).toNat)
 case atStart=>exact ⟨0,rfl,Uv _,(Xe1 HB),(Xo0 HB)⟩
 case round=>
  obtain ⟨i,rfl,hi,QS,Z0⟩:=hrel
  by_cases F0:i<F.length
  ·have G0:(i:Int)<(n:Int):=(by omega);obtain ⟨ms,V5⟩:∃ms,F[i]?=some ms:=⟨_,Ub F0⟩;have hF:=(Xo2 H).step H1.out;have Qd:=Ug V5;have Vk:=(Xo1 H).2.2 ms Qd;have Xo:=(Xe5 H) ms Qd;have R2:(Q1d 0 ((Q0x F).take i)).length<=672800:=by
    have h1:=Q5i (F:=F.take i) (fun x hx=>(Xe5 H) x (Td hx)) 0 (by rw[UR];omega);have h2:(F.take i).length<=4:=(by rw[UR];omega);have h3:=UT 168200 h2;unfold Q0x at h1⊢;rw[<-List.map_take];omega
   have x4:=Q65 (Qeg V5);obtain ⟨_,_,_,h0|⟨g,o,rfl,hg,hFi⟩⟩:=hF
   ·rw[h0] at F0;exact absurd F0 (Tf _)
   obtain ⟨p,l,d,J0,hM⟩:=hFi i ms V5;have Qn:=hM.1;have J0:=(Z0.cell (p:=⟨g,o+i,none⟩) hg).trans J0;have Qa:=Qlp i (by omega) wr;have hwr1:=Q2l w1.heap.size w1.heap.size (Q1d 0 ((Q0x F).take i)) (Q5z i) wr QS (by rw[Q7z i (by omega)];omega) Z0.size;have HR:=Xh9 V5 Vk Xo R2 x4 hM Qa hwr1 Z0;clear V5 Vk Xo R2 x4 hM Qa hwr1 Z0 QS Qd hFi;obtain ⟨L0,Jd⟩:∃L0,Q1d 0 ((Q0x F).take i)++Q5z i=L0:=⟨_,rfl⟩;have HL:=Ua Jd;rw[Jd] at HR;clear Jd;obtain ⟨HM,hHM⟩:∃t,Q5z i=t:=⟨_,rfl⟩;rw[hHM] at HR;have HHM:=Ua hHM;clear hHM;have I2:Q5q i (ms.map Q01.term)=Q5z i++(Q5p (ms.map Q01.term)++[10]):=rfl
   by_cases hms0:ms=[]
   ·subst hms0;obtain rfl:l=0:=Qn.symm
    go_wp2_with (first
     |(go_at_call_of 35 (Value.pointer (some ⟨w1.heap.size,0,none⟩));refine (Xe1 H3).mono ?_;rintro r w4 ⟨rfl,Y2,hbl4,_⟩
       have hb4w:=Xay (Xo0 H3) hbl4;have hwr3:=Q2l w1.heap.size w1.heap.size (L0++[48]) [10] w4 Y2.build (by rw[<-HL.out,Ui,Ui,Q7z i (by omega)];have:=(Xo3 HR);simp;omega) hb4w.size;have H4:=Xh2 hb4w hwr3;clear Y2 hbl4 hb4w hwr3)
     |(go_at_call_of 35 (Value.pointer (some ⟨w1.heap.size,0,none⟩));refine (Xo7 HR).mono ?_;rintro r w3 ⟨rfl,M0,KV,_⟩
       have Xg:=Xay (Xe8 HR) KV;have hwr2:=Q2l w1.heap.size w1.heap.size L0 [48] w3 M0.build (by rw[<-HL.out,Ui,Q7z i (by omega)];have:=(Xo3 HR);simp;omega) Xg.size;have H3:=Xh2 Xg hwr2;clear M0 KV Xg hwr2)
     |(go_at_call_of 70 (Value.int IntKind.i64 (i:Int));refine (Xo6 HR).mono ?_;rintro r w2 ⟨rfl,rfl⟩))
    go_loopw [27] (fun s27 wr=>s27=.int .i64 0/\wr=w4) (fun _ _=>0)
    case atStart=>exact ⟨rfl,rfl⟩
    case round=>
     obtain ⟨rfl,rfl⟩:=hrel
     go_wp2_with (go_at_call_of 35 (Value.pointer (some ⟨w1.heap.size,0,none⟩));refine (Xe1 H4).mono ?_;rintro r w5 ⟨rfl,P0,L8,_⟩;have H5:=Xh2 P0 L8;clear P0 L8)
     refine ⟨⟨i+1,congrArg (Value.int .i64) (by omega),F0,?_,Xay (Xo0 H4) (Xe1 H5)⟩,by simp only[intOf];omega⟩;rw[(Xo4 HR),Q6v];have e:(Q1d 0 ((Q0x F).take i)++Q5q (0+((Q0x F).take i).length) (List.map Q01.term []))=L0++[48]++[10]:=by
      rw[show 0+((Q0x F).take i).length=i by rw[UR];unfold Q0x;rw[UE];omega,I2,<-HL.out];simp[Q5p]
     rw[e];exact (Xo0 H5).build
   ·have O2:((l:Int)==0)=false:=by
     rw[Uk];intro e;exact hms0 (TN (by omega))
    have HN0:=Ua hms0;clear hms0
    go_wp2_with (first
     |(go_at_call_of 35 (Value.pointer (some ⟨w1.heap.size,0,none⟩));refine (Xo7 HR).mono ?_;rintro r w3 ⟨rfl,M0,KV,_⟩
       have Xg:=Xay (Xe8 HR) KV;have H3:=Xh2 Xg M0;clear M0 KV Xg)
     |(go_at_call_of 70 (Value.int IntKind.i64 (i:Int));refine (Xo6 HR).mono ?_;rintro r w2 ⟨rfl,rfl⟩))
    go_loopw [27] (fun s27 wr=>Qls w1 L0 ms s27 wr) (fun iv _=>l-(intOf iv).toNat)
    case atStart=>exact ⟨0,rfl,Uv _,by simpa[Q0w] using (Xe1 H3).build,(Xo0 H3)⟩
    case round=>
     obtain ⟨k,rfl,hk,S5,Y0⟩:=hrel
     by_cases M9:k<ms.length
     ·have hkl':(k:Int)<(l:Int):=(by omega);obtain ⟨m,hm⟩:∃m,ms[k]?=some m:=⟨_,Ub M9⟩;obtain ⟨_,_,_,h0|⟨b2,o2,rfl,D0,hMi⟩⟩:=(Xo5 HR)
      ·exact absurd h0 HN0.out
      obtain ⟨aw,lw,cw,ae,le,ce,q0,q1,q2,q3,hwm,KH,K5,Z3⟩:=hMi k m hm;have q0:=(Y0.cell (p:=⟨b2,o2+k*4,none⟩) D0).trans q0;have q1:=(Y0.cell (p:=⟨b2,o2+k*4+1,none⟩) D0).trans q1;have q2:=(Y0.cell (p:=⟨b2,o2+k*4+2,none⟩) D0).trans q2;have q3:=(Y0.cell (p:=⟨b2,o2+k*4+3,none⟩) D0).trans q3;have hkx:OkM F.length m:=(Xo1 HR).2.2.2.1 m (Ug hm);have Yp:=Qhu hkx hwm.low;have C7:=Q8q m.term ((ms.map Q01.term).take k) true;have i4:(ms.map Q01.term).take (k+1)=(ms.map Q01.term).take k++[m.term]:=Q65 (by rw[UI,hm];rfl);have x7:=Q6w (Xo2 HR) k;have J6:=(Xo2 HR).2 m (Ug hm);have hL0l:L0.length<=672806:=(by rw[<-HL.out,Ui,Q7z i (by omega)];have:=(Xo3 HR);omega);have hX:=Q50.new wr (.bool m.neg) (.int .i64 m.exp) (.slice aw lw cw) (.slice ae le ce) 98;have hhx:=Up wr (.cells #[.bool m.neg,.int .i64 m.exp,.slice aw lw cw,.slice ae le ce] 98);have A2:Bw wr (wr.alloc (.cells #[.bool m.neg,.int .i64 m.exp,.slice aw lw cw,.slice ae le ce] 98)):=Ba;have hbX:=Below.next0 Y0 A2;have WW:=S5.call A2;have Kj:w1.heap.size≠wr.heap.size:=by
       have h1:=S5;unfold Q5s at h1;intro e;rcases h1 with ⟨_,_,h2,_⟩|⟨_,_,h2,_⟩
       ·have:=(Uo.1 h2).1;omega
       ·have:=(Uo.1 h2).1;omega
      obtain ⟨L1,ZS⟩:∃L1,L0++Q0w true ((ms.map Q01.term).take k)=L1:=⟨_,rfl⟩;have hL1l:L1.length<=840998:=(by rw[<-ZS,Ui];omega);rw[ZS] at WW;have XQ:=fun W=>Qht F.length m aw lw cw ae le ce W;obtain ⟨TT,VS⟩:∃t,Q1t m.term=t:=⟨_,rfl⟩;rw[VS] at C7 J6 XQ;obtain ⟨ng,hng⟩:∃ng,m.neg=ng:=⟨_,rfl⟩;rw[hng] at q0 hX hhx A2 hbX WW XQ Yp;have HS:=Xh17 C7 i4 hwm KH hkx hX hhx A2 hbX WW Kj XQ J6 ZS hL1l hng Yp;clear VS C7 i4 hwm KH hkx hX hhx A2 hbX WW Kj XQ J6 ZS hL1l x7 hL0l hng Yp S5 Y0 hMi K5 Z3;have Q3:∀(st:LU) (w9:World),Q30 (true && ((ms.map Q01.term).take k).isEmpty) m.term=st->Q3n w1.heap.size w1.heap.size (.pointer (some ⟨w1.heap.size,0,none⟩)) (L1++st++TT) w9->Bw w1 w9->Qls w1 L0 ms (.int .i64 ((k:Int)+1)) w9:=fun st w9 hs h1 h2=>by
       refine ⟨k+1,congrArg (Value.int .i64) (by omega),M9,?_,h2⟩;rw[(Xo1 HS),(Xo0 HS),hs,<-UV,(Xo13 HS),<-UV];exact h1.build
      have HE:=Ua Q3;clear Q3;cases ng with
      |true=>
       by_cases Xa:0<k
       ·have Xx:(0:Int)<(k:Int):=(by omega);have o4:Q30 (true && ((ms.map Q01.term).take k).isEmpty) m.term=[32,45,32]:=by
         have e:((ms.map Q01.term).take k).isEmpty=false:=by
          rw[List.isEmpty_eq_false_iff];intro h;have:=congrArg List.length h;rw[UR,UE] at this;have e0:([]:List Q0m).length=0:=rfl;omega
         rw[e,Q30,(Xe16 HS)];rfl
        have e0:=(Xo5 HS).c0;have e1:=(Xo5 HS).c1;have e2:=(Xo5 HS).c2;have e3:=(Xo5 HS).c3;have KG:=Q2l w1.heap.size w1.heap.size L1 [32,45,32] (wr.alloc (.cells #[.bool true,.int .i64 m.exp,.slice aw lw cw,.slice ae le ce] 98)) (Xo9 HS) (by have:=(Xo14 HS);simp;omega) (Xo8 HS).size;have HA:=Xh2 o4 KG;clear o4 KG
        go_wp2_with (first
         |(go_at_call_of 35 (Value.pointer (some ⟨w1.heap.size,0,none⟩));refine (Xe1 H6).mono ?_;rintro r w7 ⟨rfl,N7,QH,_⟩
           have H7:=Xh2 N7 (Xay (Xo0 H6) QH);clear N7 QH)
         |(go_at_call_of 71 (Value.agg #[.bool true,.int .i64 m.exp,.slice aw lw cw,.slice ae le ce]);refine (Xe2 H5).mono ?_;rintro r w6 ⟨rfl,N4⟩
           have j7:=Below.next0 (Xo1 H5) N4;have JA:=Q2l w1.heap.size w1.heap.size (L1++[32,45,32]) TT w6 (Q3n.call (Xo0 H5) N4).build (by have:=(Xo14 HS);have:=(Xo12 HS);rw[Ui];simp;omega) j7.size;have H6:=Xh2 j7 JA;clear N4 j7 JA)
         |(go_at_call_of 35 (Value.pointer (some ⟨w1.heap.size,0,none⟩));refine (Xe1 HA).mono ?_;rintro r w5 ⟨rfl,P0,L8,Jq⟩
           have QT:=(Xo5 HS).onKept (Jq wr.heap.size _ _ _ (Xo6 HS) (by decide) (fun e=>(Xo10 HS) e.symm));obtain ⟨e0,e1,e2⟩:=QT.cc;have e3:=QT.c3;have J7:=Xay (Xo8 HS) L8;have QQ:=Below.next0 H1.out J7;have VB:=(Xo11 HS) w5 ((Xo2 HS).step J7) ((Xo3 HS).step J7) (Xo4 HS) (by omega) ((Xo3 H).step QQ) ((Xo4 H).step QQ);have H5:=Xh3 P0 J7 VB;clear P0 L8 Jq QT J7 QQ VB))
        exact ⟨HE.out _ _ (Xo0 HA) (Xo0 H7) (Xe1 H7),by simp only[intOf];omega⟩
       ·have Xx:¬((0:Int)<(k:Int)):=(by omega);have o4:Q30 (true && ((ms.map Q01.term).take k).isEmpty) m.term=[45]:=by
         have e:((ms.map Q01.term).take k).isEmpty=true:=by
          rw[show k=0 by omega];rfl
         rw[e,Q30,(Xe16 HS)];rfl
        have e0:=(Xo5 HS).c0;have e1:=(Xo5 HS).c1;have e2:=(Xo5 HS).c2;have e3:=(Xo5 HS).c3;have KG:=Q2l w1.heap.size w1.heap.size L1 [45] (wr.alloc (.cells #[.bool true,.int .i64 m.exp,.slice aw lw cw,.slice ae le ce] 98)) (Xo9 HS) (by have:=(Xo14 HS);simp;omega) (Xo8 HS).size;have HA:=Xh2 o4 KG;clear o4 KG
        go_wp2_with (first
         |(go_at_call_of 35 (Value.pointer (some ⟨w1.heap.size,0,none⟩));refine (Xe1 H6).mono ?_;rintro r w7 ⟨rfl,N7,QH,_⟩
           have H7:=Xh2 N7 (Xay (Xo0 H6) QH);clear N7 QH)
         |(go_at_call_of 71 (Value.agg #[.bool true,.int .i64 m.exp,.slice aw lw cw,.slice ae le ce]);refine (Xe2 H5).mono ?_;rintro r w6 ⟨rfl,N4⟩
           have j7:=Below.next0 (Xo1 H5) N4;have JA:=Q2l w1.heap.size w1.heap.size (L1++[45]) TT w6 (Q3n.call (Xo0 H5) N4).build (by have:=(Xo14 HS);have:=(Xo12 HS);rw[Ui];simp;omega) j7.size;have H6:=Xh2 j7 JA;clear N4 j7 JA)
         |(go_at_call_of 35 (Value.pointer (some ⟨w1.heap.size,0,none⟩));refine (Xe1 HA).mono ?_;rintro r w5 ⟨rfl,P0,L8,Jq⟩
           have QT:=(Xo5 HS).onKept (Jq wr.heap.size _ _ _ (Xo6 HS) (by decide) (fun e=>(Xo10 HS) e.symm));obtain ⟨e0,e1,e2⟩:=QT.cc;have e3:=QT.c3;have J7:=Xay (Xo8 HS) L8;have QQ:=Below.next0 H1.out J7;have VB:=(Xo11 HS) w5 ((Xo2 HS).step J7) ((Xo3 HS).step J7) (Xo4 HS) (by omega) ((Xo3 H).step QQ) ((Xo4 H).step QQ);have H5:=Xh3 P0 J7 VB;clear P0 L8 Jq QT J7 QQ VB))
        exact ⟨HE.out _ _ (Xo0 HA) (Xo0 H7) (Xe1 H7),by simp only[intOf];omega⟩
      |false=>
       by_cases Xa:0<k
       ·have Xx:(0:Int)<(k:Int):=(by omega);have o4:Q30 (true && ((ms.map Q01.term).take k).isEmpty) m.term=[32,43,32]:=by
         have e:((ms.map Q01.term).take k).isEmpty=false:=by
          rw[List.isEmpty_eq_false_iff];intro h;have:=congrArg List.length h;rw[UR,UE] at this;have e0:([]:List Q0m).length=0:=rfl;omega
         rw[e,Q30,(Xe16 HS)];rfl
        have e0:=(Xo5 HS).c0;have e1:=(Xo5 HS).c1;have e2:=(Xo5 HS).c2;have e3:=(Xo5 HS).c3;have KG:=Q2l w1.heap.size w1.heap.size L1 [32,43,32] (wr.alloc (.cells #[.bool false,.int .i64 m.exp,.slice aw lw cw,.slice ae le ce] 98)) (Xo9 HS) (by have:=(Xo14 HS);simp;omega) (Xo8 HS).size;have HA:=Xh2 o4 KG;clear o4 KG
        go_wp2_with (first
         |(go_at_call_of 35 (Value.pointer (some ⟨w1.heap.size,0,none⟩));refine (Xe1 H6).mono ?_;rintro r w7 ⟨rfl,N7,QH,_⟩
           have H7:=Xh2 N7 (Xay (Xo0 H6) QH);clear N7 QH)
         |(go_at_call_of 71 (Value.agg #[.bool false,.int .i64 m.exp,.slice aw lw cw,.slice ae le ce]);refine (Xe2 H5).mono ?_;rintro r w6 ⟨rfl,N4⟩
           have j7:=Below.next0 (Xo1 H5) N4;have JA:=Q2l w1.heap.size w1.heap.size (L1++[32,43,32]) TT w6 (Q3n.call (Xo0 H5) N4).build (by have:=(Xo14 HS);have:=(Xo12 HS);rw[Ui];simp;omega) j7.size;have H6:=Xh2 j7 JA;clear N4 j7 JA)
         |(go_at_call_of 35 (Value.pointer (some ⟨w1.heap.size,0,none⟩));refine (Xe1 HA).mono ?_;rintro r w5 ⟨rfl,P0,L8,Jq⟩
           have QT:=(Xo5 HS).onKept (Jq wr.heap.size _ _ _ (Xo6 HS) (by decide) (fun e=>(Xo10 HS) e.symm));obtain ⟨e0,e1,e2⟩:=QT.cc;have e3:=QT.c3;have J7:=Xay (Xo8 HS) L8;have QQ:=Below.next0 H1.out J7;have VB:=(Xo11 HS) w5 ((Xo2 HS).step J7) ((Xo3 HS).step J7) (Xo4 HS) (by omega) ((Xo3 H).step QQ) ((Xo4 H).step QQ);have H5:=Xh3 P0 J7 VB;clear P0 L8 Jq QT J7 QQ VB))
        exact ⟨HE.out _ _ (Xo0 HA) (Xo0 H7) (Xe1 H7),by simp only[intOf];omega⟩
       ·have Xx:¬((0:Int)<(k:Int)):=(by omega);have o4:Q30 (true && ((ms.map Q01.term).take k).isEmpty) m.term=[]:=by
         have e:((ms.map Q01.term).take k).isEmpty=true:=by
          rw[show k=0 by omega];rfl
         rw[e,Q30,(Xe16 HS)];rfl
        have e0:=(Xo5 HS).c0;have e1:=(Xo5 HS).c1;have e2:=(Xo5 HS).c2;have e3:=(Xo5 HS).c3;have hbX0:=Below.next0 H1.out (Xo8 HS);have VB:=(Xo11 HS) _ ((Xo2 HS).step (Xo8 HS)) ((Xo3 HS).step (Xo8 HS)) (Xo4 HS) (by omega) ((Xo3 H).step hbX0) ((Xo4 H).step hbX0);have HA:=Xh2 o4 VB;clear o4 VB hbX0
        go_wp2_with (first
         |(go_at_call_of 35 (Value.pointer (some ⟨w1.heap.size,0,none⟩));refine (Xe1 H6).mono ?_;rintro r w7 ⟨rfl,N7,QH,_⟩
           have H7:=Xh2 N7 (Xay (Xo0 H6) QH);clear N7 QH)
         |(go_at_call_of 71 (Value.agg #[.bool false,.int .i64 m.exp,.slice aw lw cw,.slice ae le ce]);refine (Xe1 HA).mono ?_;rintro r w6 ⟨rfl,N4⟩
           have j7:=Below.next0 (Xo8 HS) N4;have JA:=Q2l w1.heap.size w1.heap.size L1 TT w6 ((Xo9 HS).call N4) (by have:=(Xo14 HS);have:=(Xo12 HS);omega) j7.size;have H6:=Xh2 j7 JA;clear N4 j7 JA))
        exact ⟨HE.out [] _ (Xo0 HA) (by rw[Xao];exact (Xo0 H7)) (Xe1 H7),by simp only[intOf];omega⟩
     ·have hkl':¬((k:Int)<(l:Int)):=(by omega);have hke:k=ms.length:=(by omega);have i4:(ms.map Q01.term).take k=ms.map Q01.term:=Uw (by rw[UE];omega);rw[i4] at S5;have x7:=Q6w (Xo2 HR) ms.length;have h0:(ms.map Q01.term).length=ms.length:=UE ..;rw[<-h0,Tw] at x7;have hL0l:L0.length<=672806:=(by rw[<-HL.out,Ui,Q7z i (by omega)];have:=(Xo3 HR);omega);have hw10:=Q2l w1.heap.size w1.heap.size (L0++Q0w true (ms.map Q01.term)) [10] wr S5 (by rw[Ui];simp;omega) Y0.size;have HW:=Xh2 hw10 Y0;clear S5 i4 hke x7 hL0l hw10 Y0
      go_wp2_with (go_at_call_of 35 (Value.pointer (some ⟨w1.heap.size,0,none⟩));refine (Xo0 HW).mono ?_;rintro r w5 ⟨rfl,P0,L8,_⟩;have H5:=Xh2 P0 L8;clear P0 L8)
      refine ⟨⟨i+1,congrArg (Value.int .i64) (by omega),F0,?_,Xay (Xe1 HW) (Xe1 H5)⟩,by simp only[intOf];omega⟩;rw[(Xo4 HR),Q6v];have e:(Q1d 0 ((Q0x F).take i)++Q5q (0+((Q0x F).take i).length) (ms.map Q01.term))=L0++Q0w true (ms.map Q01.term)++[10]:=by
       rw[show 0+((Q0x F).take i).length=i by rw[UR];unfold Q0x;rw[UE];omega,I2,<-HL.out,Q5p,Uq (by intro h;exact HN0.out (List.map_eq_nil_iff.1 h))];simp only[UV]
      rw[e];exact (Xo0 H5).build
  ·have G0:¬((i:Int)<(n:Int)):=(by omega);have p8:i=F.length:=(by omega);have A1:(Q0x F).take i=Q0x F:=Uw (by unfold Q0x;rw[UE];omega);rw[A1] at QS;have C1:Q1d 0 (Q0x F)≠[]:=by
    intro e;have h1:=congrArg (List.count 10) e;rw[Qgu] at h1;have h2:(Q0x F).length=F.length:=(by unfold Q0x;exact UE ..);have h3:=(Xo1 H).1;have h4:List.count (10:UInt8) []=0:=rfl;omega
   have ZM:=Tryz.Qzc w1.heap.size w1.heap.size (Q1d 0 (Q0x F)) wr QS C1;have HS:=Xh2 ZM Z0;clear QS A1 p8 C1 ZM Z0
   go_wp2_with (go_at_call_of 39 (Value.pointer (some ⟨w1.heap.size,0,none⟩));refine (Xo0 HS).mono ?_;rintro r w9 ⟨rfl,N3⟩;have H9:=Ua (Xay (Xe1 HS) N3);clear N3)
   go_ret;exact ⟨fun _=>rfl,fun h=>absurd (Xo1 H) h,Below.next0 H1.out H9.out⟩
theorem Qqt (B b g n:Nat) (l:LU) (xs:List (LU)) (w:World) (hb:Q5s B b l w) (hB:B<=w.heap.size) (hg:g<w.heap.size) (hc:∀(j:Nat) x,xs[j]?=some x->w.cell? ⟨g,j,none⟩=some (sv x)) (hn:xs.length=n) (h3:n<=3) (hl:l.length+(Lib.join xs [32]).length<=140737488355000):
 Calls Tryz.prog 34 #[.slice (some ⟨g,0,none⟩) n n,.pointer (some ⟨b,0,none⟩)] w fun r w'=>r=.returned (.tuple #[])/\Q5s B b (l++(Lib.join xs [32]++[10])) w'/\Below B w w':=by
 have hid:(xs.map ((fun x:ByteArray=>x.data.toList) ∘ fun x:LU=>(⟨x.toArray⟩:ByteArray)))=xs:=List.map_id xs;have hj:=Tryz.Qzi g 0 n (xs.map fun x=>⟨x.toArray⟩) ⟨#[32]⟩ w (fun j x hx=>by
  rw[UI] at hx;cases hy:xs[j]? with
  |none=>rw[hy] at hx;cases hx
  |some y=>rw[hy] at hx;injection hx with hx;subst hx;rw[UH];exact hc j y hy) hg (by rw[UE];omega) (by rw[UE];omega) (by rw[List.map_map,hid];show (Lib.join xs [32]).length<=_;omega)
 rw[UE,hn,List.map_map] at hj;rw[hid] at hj;obtain ⟨J,hJ⟩:∃J,Lib.join xs [32]=J:=⟨_,rfl⟩;have WO:Calls Tryz.prog 36 #[.slice (some ⟨g,0,none⟩) n n,.string ⟨#[32]⟩] w fun e w'=>e=.returned (.string ⟨J.toArray⟩)/\Bw w w':=by rw[<-hJ];exact hj
 rw[hJ] at hl⊢;have hw:=fun W (hW:Bw w W)=>Qhr B b l (J++[10]) W (hb.call hW) (by simp;omega) (Uj hB hW.size);have hJ1:¬9223372036854775807<J.length+1:=by omega
 have hsv:sv (J++[10])=.string (⟨J.toArray⟩++⟨#[10]⟩):=by
  unfold sv;refine congrArg Value.string ?_
  apply ByteArray.ext
  simp[UM]
 rw[hsv] at hw;have HW:=Xh3 WO hw hB;clear hj WO hw hb hc hid hJ hl
 go_enter Tryz.func34,Tryz.ntmps34
 go_wp2_with (first
  |(go_at_call 36;refine (Xo0 HW).mono ?_;rintro e w1 ⟨rfl,C0⟩;have H1:=Ua C0;clear C0)
  |(refine ((Xo1 HW) w1 H1.out).mono ?_;rintro e w2 ⟨rfl,K4,D0⟩;have H2:=Xh2 K4 D0;clear K4 D0))
 go_end0
 exact ⟨rfl,(Xo0 H2).build,(H1.out.mono (Xe2 HW)).trans (Xe1 H2)⟩
end Go.Proofs.YtidojbkhlenahaaGreatDoor
