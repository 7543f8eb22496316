/- Part 20. No condition. -/
import Derived.Test.YtidojbkhlenahaaGreatDoorCards
import Derived.Test.YtidojbkhlenahaaGreatDoorTie
import Derived.ProofKit
import Derived.OpenShut
import Derived.Deep.DeepHandedRow
import Derived.Lib.LaidTab
import Derived.Stop.LaidErr
import Derived.Shelf.Vars
import Derived.Lay
import Derived.Deep.Matrix
import Derived.Lib.SmallJoins
import Derived.Deep.Slices
import Derived.ChangeSame
import Derived.Test.YtidojbkhlenahaaGreatDoorPkProblemRights19
set_option maxRecDepth 100000
set_option maxHeartbeats 16000000
namespace Go.Proofs.YtidojbkhlenahaaGreatDoor
open Go.RowKit WordsM DecM
theorem Qya {s:LU} {T:Qa8} (hX:Qo5 s=.ok T):∃q st F,Qey s (s.length+1) 0 0 PrS.empty=.ok (q,st)/\Q99 (s.drop q)=.ok F/\st.over=none/\st.prob F=T:=by
 unfold Qo5 at hX;cases hY:Qey s (s.length+1) 0 0 PrS.empty with
 |error e=>rw[hY] at hX;cases hX
 |ok z=>
  obtain ⟨q,st⟩:=z;rw[hY] at hX;simp only at hX
  split at hX
  ·cases hX
  ·cases hX
  ·cases hX
  ·rename_i hP Wv;injection hX with hX;exact ⟨q,st,_,rfl,hP,Wv,hX⟩
theorem Qh6 [LT ZK] [Nonempty (PLift Zz)] (s:ByteArray) (w:World) (hs:s.size<=1000000) (hT:Q1s w) (T:Qa8) (hX:Qo5 s.data.toList=.ok T) (hTr:Qgb T):
 Calls Tryz.prog 16 #[.string s] w fun e w'=>∃p x,e=.returned (.tuple #[.agg (Q46 p x).toArray,.int .i64 0,.int .i64 0])/\Q2g w' p x/\x.prob=T/\Q24 x/\Bw w w':=by
 obtain ⟨q,st,F,hY,hPe,Wv,hpT⟩:=Qya hX;have HY:=Ua hY;have HPe:=Ua hPe;have HOV:=Xh3 Wv hpT hTr;clear hX hY hPe Wv hpT hTr;obtain ⟨W0,E1,Xq⟩:=Qe2 s w hs hT;have HT:=Ua Xq;clear Xq hT
 go_enter Tryz.func16,Tryz.ntmps16
 go_upto_region 2 with fail
 change Code.wp _ _ _ _ ((w.alloc (.cells zpL.toArray 28)).alloc (.cells (zpL++[Value.int .i64 (-1)]).toArray 75))
 rw[E1];clear E1;have Ql:s.data.toList.length=s.size:=(Lib.size_eq s).symm
 go_upto_region 5 with (go_at_call 48;refine (Xo0 HT).mono ?_;rintro e W1 ⟨B,p,x,M1,J2,Xs,hm⟩;rw[HY.out] at hm;obtain ⟨rfl,Y0,JM,hq⟩:=hm
                        have I2:Blk W1 w.heap.size zpL:=(Xo2 HT).same (J2.block _ (by have:=(Xe4 HT);omega) (by omega));have A0:Bw w W1:=(Xo1 HT).trans (J2.below (by omega) (by have:=(Xe4 HT);omega));have H1:=Xh6 A0 M1 Y0 JM Xs I2;have D8:(q:Int)<=(s.size:Int):=(by omega);clear M1 J2 Xs A0 Y0 JM I2 hq)
 have hD:(s.extract q s.size).data.toList=s.data.toList.drop q:=Lib.extract_to_end s q;have VO:=Qee (s.extract q s.size) W1 (by rw[ByteArray.size_extract];omega) ((Xo3 HT).step (Xo0 H1));rw[hD] at VO;have hlq:(s.data.toList.drop q).length<=1000000:=by rw[Tu];omega
 have HP:=Xh2 VO hlq;clear hD VO Ql hlq
 go_upto_region 6 with (go_at_call 49;refine (Xo0 HP).mono ?_;rintro e W2 ⟨⟨D0,hm⟩,J8⟩;rw[HPe.out] at hm;obtain ⟨a,n,c,Fv,rfl,hF,hFt,hFr⟩:=hm
                        have X1:=(Xe5 H1).step D0 ((Xe5 H1).lt (v:=.slice none 0 0));obtain ⟨k0,k1,k2,k3,k4,k5,k6,k7,k8,k9,k10,k11,k12,k13⟩:=Q04 X1.c;obtain ⟨f0,f1,f2,f3,f4,f5,f6,f7,f8,f9,f10,f11,f12,f13⟩:=Qy7 X1 (by decide);have X0:=(Xo1 H1).step D0;have ko:=X0.blk.c 14 _ rfl;have Yj:∀y,a=some y->W1.heap.size<=y.block:=fun y hy=>by { rcases hF.2.2.2 with h0|⟨b0,o0,rfl,_⟩;(have:=hFr.1;rw[h0] at this;simp at this);(injection hy with hy;subst hy;exact J8 b0 o0 n c _ _ rfl) }
                        have H2:=Xh7 X1 (Below.next0 (Xo0 H1) D0) X0 hF hFt hFr Yj;clear X1 D0 X0 hF hFt hFr J8 Yj)
 have hxo:x.over= -1:=by have:=(Xo2 H1).over;rw[(Xo0 HOV)] at this;exact this
 have F8:=Qw0 (Xo2 H1) (Xo3 H1) (Xo0 HOV) Fv;rw[show Q0n Fv=F from (Xo4 H2),(Xo1 HOV)] at F8;have HPR:=Xh2 F8 (Qzr (Xo2 H1) (Xo3 H1) (Xo0 HOV) Fv);clear F8;rw[hxo] at ko;have X0:=(Xo2 H2);have q0:=X0.blk.c 0 _ rfl;have g0:=X0.blk.f 0 (by simp[rpL]);have hRne:w.heap.size≠w.heap.size+1:=by omega
 have YN:=Qh3.set X0.blk 0 (.slice a n c);have C5:=X0.blk.set (i:=0) (by simp[rpL]) (.slice a n c);have hz3:Blk (W2.setCell ⟨w.heap.size+1,0,none⟩ (.slice a n c)) w.heap.size zpL:=(Xo0 H2).far (by omega) _;have I0:Bw w (W2.setCell ⟨w.heap.size+1,0,none⟩ (.slice a n c)):=(Xo1 H2).setCell (p:=⟨w.heap.size+1,0,none⟩) (by show w.heap.size<=w.heap.size+1;omega) _;have Yk:Q2g (W2.setCell ⟨w.heap.size+1,0,none⟩ (.slice a n c)) ⟨⟨a,n,c⟩,p.b,p.t,p.m,p.e⟩ ⟨Fv,x.box,x.til,x.most,x.least,x.prec,x.order,x.budget⟩:=
  ⟨(Xo3 H2).only YN (Qfq p x) (fun y hy=>by have h1:=(Xe6 H2) y hy;have h2:=(Xo1 H1).blk.lt;omega),(X0.box.only YN (Qfq p x) (Xo4 H1)).boxIn,X0.t.only YN (Qfq p x),X0.m.only YN (Qfq p x),X0.e.only YN (Qfq p x)⟩
 have Wt:=X0.box.only YN (Qfq p x) (Xo4 H1);clear X0 YN
 go_upto_region 13 with fail
 have HRP:=Ua ((Qtm Yk (Xo5 H2) (Xe1 HPR)).2 (by rw[(Xo0 HPR)];exact (Xe2 HOV)));obtain ⟨W3,j6⟩:∃W3,W2.setCell ⟨w.heap.size+1,0,none⟩ (.slice a n c)=W3:=⟨_,rfl⟩;rw[j6] at hz3 I0 Yk C5 Wt⊢;have hRt:=Q3y ⟨⟨a,n,c⟩,p.b,p.t,p.m,p.e⟩ ⟨Fv,x.box,x.til,x.most,x.least,x.prec,x.order,x.budget⟩ W3 Yk;simp only[Q46] at hRt;have S7:Q3h W3 (w.heap.size+1) [.slice a n c,.slice p.b.a p.b.l p.b.c,.bool x.til.neg,.int .i64 x.til.exp,.slice p.t.a p.t.l p.t.c,.bool x.most.neg,.int .i64 x.most.exp,.slice p.m.a p.m.l p.m.c,.bool x.least.neg,.int .i64 x.least.exp,.slice p.e.a p.e.l p.e.c,.int .i64 x.prec,.int .i64 x.order,.int .i64 x.budget,.int .i64 x.over]:=C5.c;have r0:=S7 0 _ rfl;have r1:=S7 1 _ rfl;have r2:=S7 2 _ rfl;have r3:=S7 3 _ rfl;have r4:=S7 4 _ rfl;have r5:=S7 5 _ rfl;have r6:=S7 6 _ rfl;have r7:=S7 7 _ rfl;have r8:=S7 8 _ rfl;have r9:=S7 9 _ rfl;have r10:=S7 10 _ rfl;have r11:=S7 11 _ rfl;have r12:=S7 12 _ rfl;have r13:=S7 13 _ rfl;have p8:w.heap.size+1<W3.heap.size:=C5.lt;have H3:=Xh7 hz3 I0 Yk hRt S7 p8 Wt;clear hz3 I0 Yk C5 S7 hRt j6 p8 Wt k0 k1 k2 k3 k4 k5 k6 k7 k8 k9 k10 k11 k12 k13 ko q0 g0 f0 f1 f2 f3 f4 f5 f6 f7 f8 f9 f10 f11 f12 f13
 go_upto_region 15 with (go_at_call 9;refine (Xo3 H3).mono ?_;rintro e W4 ⟨⟨b,rfl,hb⟩,N1⟩;obtain rfl:b=true:=hb.2 HRP.out
                         have hz4:=(Xo0 H3).step N1 ((Xo0 H3).lt (v:=.slice none 0 0));obtain ⟨k0,k1,k2,k3,k4,k5,k6,k7,k8,k9,k10,k11,k12,k13⟩:=Q04 hz4.c;obtain ⟨f0,f1,f2,f3,f4,f5,f6,f7,f8,f9,f10,f11,f12,f13⟩:=Qy7 hz4 (by decide);have Jt:=(Xo4 H3).step N1 (Xo5 H3);have r0:=Jt 0 _ rfl;have r1:=Jt 1 _ rfl;have r2:=Jt 2 _ rfl;have r3:=Jt 3 _ rfl;have r4:=Jt 4 _ rfl;have r5:=Jt 5 _ rfl;have r6:=Jt 6 _ rfl;have r7:=Jt 7 _ rfl;have r8:=Jt 8 _ rfl;have r9:=Jt 9 _ rfl;have r10:=Jt 10 _ rfl;have r11:=Jt 11 _ rfl;have r12:=Jt 12 _ rfl;have r13:=Jt 13 _ rfl;have H4:=Xh4 hz4 (Below.next0 (Xo1 H3) N1) ((Xo2 H3).step N1) ((Xe6 H3).step N1);clear hz4 Jt hb N1)
 go_wp2_with fail
 obtain ⟨V,hVe,hO,hz9,j4⟩:=Qti (.slice a n c) (.slice p.b.a p.b.l p.b.c) (.bool x.til.neg) (.int .i64 x.til.exp) (.slice p.t.a p.t.l p.t.c) (.bool x.most.neg) (.int .i64 x.most.exp) (.slice p.m.a p.m.l p.m.c) (.bool x.least.neg) (.int .i64 x.least.exp) (.slice p.e.a p.e.l p.e.c) (.int .i64 x.prec) (.int .i64 x.order) (.int .i64 x.budget) (Xo0 H4) (Xo1 H4) (Uf _);have hbB:∀y,a=some y->y.block≠w.heap.size:=fun y hy=>by have h1:=(Xe6 H2) y hy;have h2:=(Xo1 H1).blk.lt;omega
 have hp:=(Xo2 H4);have hP9:=And.intro (hp.f.only hO Qjw hbB) (And.intro ((Xe3 H4).only hO Qjw (by have:=(Xo4 H1);omega)).boxIn (And.intro (hp.t.only hO Qjw) (And.intro (hp.m.only hO Qjw) (hp.e.only hO Qjw))));unfold Qpq at hVe;subst hVe;obtain ⟨c0,c1,c2,c3,c4,c5,c6,c7,c8,c9,c10,c11,c12,c13⟩:=Q04 hz9.c;exact ⟨rfl,.tuple #[.agg (Q46 ⟨⟨a,n,c⟩,p.b,p.t,p.m,p.e⟩ ⟨Fv,x.box,x.til,x.most,x.least,x.prec,x.order,x.budget⟩).toArray,.int .i64 0,.int .i64 0],by simp[results,go_sem,Q46,c0,c1,c2,c3,c4,c5,c6,c7,c8,c9,c10,c11,c12,c13],_,_,rfl,⟨hP9.1,hP9.2.1,hP9.2.2.1,hP9.2.2.2.1,hP9.2.2.2.2⟩,(Xo0 HPR),HRP.out,j4⟩
structure Qu5 (w:World):Prop where
 tab:Lib.TabIs Tryz.prog w "internal/strconv.uint64pow10" .u64 Lib.pow10Tab
 tz:Q1s w
 big:1<w.heap.size
theorem Qzs:Tryz.prog.globalNamed "internal/strconv.uint64pow10" =some 1:=by kernel_rfl
theorem Qu5.below {w w':World} (h:Qu5 w) (hb:Bw w w'):Qu5 w':=⟨var?_below hb Qzs h.big h.tab,h.tz.step hb,Ue h.big hb.size⟩
theorem Qu5.pow {w:World} (h:Qu5 w):Qbh w:=fun _ hb=>(h.below hb).tab
theorem Qzt:sv (Qcu xK.prob)=.string ⟨(([112,114,101,99,32,54,52,10,111,114,100,101,114,32,52,10,98,117,100,103,101,116,32,49,48,48,10,117,110,116,105,108,32,49,10,109,111]:LU).append [115,116,32,49,112,45,50,10,108,101,97,115,116,32,49,112,45,50,48,10,98,111,120,32,49,32,49,10,120,49,39,32,61,32,120,49,10]).toArray⟩:=by rw[Qtn,Qtk];rfl
theorem Qzu (p:Qgo):(Q46 p xK)=[.slice p.f.a p.f.l p.f.c,.slice p.b.a p.b.l p.b.c,.bool false,.int .i64 0,.slice p.t.a p.t.l p.t.c,.bool false,.int .i64 (-2),.slice p.m.a p.m.l p.m.c,.bool false,.int .i64 (-20),.slice p.e.a p.e.l p.e.c,.int .i64 64,.int .i64 4,.int .i64 100]:=rfl
theorem Qyb:Qey sB (sB.length+1) 0 0 PrS.empty=.error (8,5):=by rfl
theorem Qto [LT ZK] [Nonempty (PLift Zz)] (w:World) (hL:Qu5 w):
 Calls Tryz.prog 7 #[] w fun e w'=>e=.returned (.bool true)/\Bw w w':=by
 have K8:=Qh6 ⟨#[112,114,101,99,32,54,52,10,111,114,100,101,114,32,52,10,98,117,100,103,101,116,32,49,48,48,10,117,110,116,105,108,32,49,10,109,111,115,116,32,49,112,45,50,10,108,101,97,115,116,32,49,112,45,50,48,10,98,111,120,32,49,32,49,10,120,49,39,32,61,32,120,49,10]⟩ w (by decide) hL.tz pK Qps Qnj;have Qr:=fun W (hb:Bw w W)=>Qh4 ⟨#[112,114,101,99,32,54,52,10,111,114,100,101,114,32,48,10]⟩ W (by decide) (hL.below hb).tz 8 5 Qyb;have H:=Xh3 K8 Qr hL;clear K8 Qr hL
 go_enter Tryz.func7,Tryz.ntmps7
 go_upto_region 3 with (go_at_call 16;refine (Xo0 H).mono ?_;rintro r w1 ⟨⟨⟨fa,fl,fc⟩,⟨ba,bl,bc⟩,⟨ta,tl,tc⟩,⟨ma,ml,mc⟩,⟨ea,el,ec⟩⟩,x,rfl,QA,F8,hR,A0⟩
                        obtain rfl:x=xK:=Qw2 (Qtl QA hR.field (J08 hR)) Qy9 (F8.trans Qtn.symm);obtain rfl:1=fl:=QA.f.1;obtain rfl:1=bl:=QA.b.1;have H1:=Xh3 A0 QA hR;rw[Qzu];simp only;clear A0 QA F8 hR)
 obtain ⟨W1,I1⟩:∃W1,w1.alloc (.cells #[.slice fa 1 fc,.slice ba 1 bc,.bool false,.int .i64 0,.slice ta tl tc,.bool false,.int .i64 (-2),.slice ma ml mc,.bool false,.int .i64 (-20),.slice ea el ec,.int .i64 64,.int .i64 4,.int .i64 100] 28)=W1:=⟨_,rfl⟩;have hC:=Q3h.new w1 [.slice fa 1 fc,.slice ba 1 bc,.bool false,.int .i64 0,.slice ta tl tc,.bool false,.int .i64 (-2),.slice ma ml mc,.bool false,.int .i64 (-20),.slice ea el ec,.int .i64 64,.int .i64 4,.int .i64 100] 28
 change Q3h (w1.alloc (.cells #[.slice fa 1 fc,.slice ba 1 bc,.bool false,.int .i64 0,.slice ta tl tc,.bool false,.int .i64 (-2),.slice ma ml mc,.bool false,.int .i64 (-20),.slice ea el ec,.int .i64 64,.int .i64 4,.int .i64 100] 28)) _ _ at hC
 rw[I1] at hC⊢;have E0:w1.heap.size<W1.heap.size:=by rw[<-I1];exact Q0p _ _
 have hb:Bw w1 W1:=by rw[<-I1];exact Ba
 have N0:=Below.next0 (Xo0 H1) hb;have QA:∀W,Bw W1 W->Q2g W ⟨⟨fa,1,fc⟩,⟨ba,1,bc⟩,⟨ta,tl,tc⟩,⟨ma,ml,mc⟩,⟨ea,el,ec⟩⟩ xK:=fun W hW=>((Xo1 H1).step hb).step hW;have H2:=Xh4 N0 (fun W (hW:Bw W1 W)=>hC.step hW E0) QA E0;clear I1 hC E0 hb N0 QA
 go_upto_region 4 with (go_at_call 16;refine ((Xo1 H) W1 (Xo0 H2)).mono ?_;rintro r w2 ⟨D0,rfl⟩
                        simp only[zpL];have H3:=Ua D0;clear D0)
 have G3:Bw w2 (w2.alloc (.cells #[.slice none 0 0,.slice none 0 0,.bool false,.int .i64 0,.slice none 0 0,.bool false,.int .i64 0,.slice none 0 0,.bool false,.int .i64 0,.slice none 0 0,.int .i64 0,.int .i64 0,.int .i64 0] 28)):=Ba;obtain ⟨W2,u4⟩:∃W2,w2.alloc (.cells #[.slice none 0 0,.slice none 0 0,.bool false,.int .i64 0,.slice none 0 0,.bool false,.int .i64 0,.slice none 0 0,.bool false,.int .i64 0,.slice none 0 0,.int .i64 0,.int .i64 0,.int .i64 0] 28)=W2:=⟨_,rfl⟩;rw[u4] at G3⊢;clear u4;have QN:=Below.next0 H3.out G3;obtain ⟨k0,k1,k2,k3,k4,k5,k6,k7,k8,k9,k10,k11,k12,k13⟩:=Q04 ((Xo1 H2) W2 QN);have HR:=Xh2 QN (fun W (hW:Bw W1 W)=>And.intro (Q3y ⟨⟨fa,1,fc⟩,⟨ba,1,bc⟩,⟨ta,tl,tc⟩,⟨ma,ml,mc⟩,⟨ea,el,ec⟩⟩ xK W ((Xo2 H2) W hW)) (And.intro (Qb7 ⟨⟨fa,1,fc⟩,⟨ba,1,bc⟩,⟨ta,tl,tc⟩,⟨ma,ml,mc⟩,⟨ea,el,ec⟩⟩ xK W ((Xo2 H2) W hW) (Xe2 H1) ((Xe2 H).below (Below.next0 (Xo0 H2) hW)).tz ((Xe2 H).below (Below.next0 (Xo0 H2) hW)).pow) (Qiq xK ⟨⟨fa,1,fc⟩,⟨ba,1,bc⟩,⟨ta,tl,tc⟩,⟨ma,ml,mc⟩,⟨ea,el,ec⟩⟩ ⟨⟨fa,1,fc⟩,⟨ba,1,bc⟩,⟨ta,tl,tc⟩,⟨ma,ml,mc⟩,⟨ea,el,ec⟩⟩ W ((Xo2 H2) W hW) ((Xo2 H2) W hW))));clear G3 QN
 go_wp2_with (first
  |(go_at_call 11;refine ((Xe1 HR) w4 H5.out).2.2.mono ?_;rintro r w5 ⟨rfl,C1⟩;have H6:=Ua (Below.next0 H5.out C1);clear C1)
  |(go_at_call 13;refine ((Xe1 HR) w3 H4.out).2.1.mono ?_;rintro r w4 ⟨rfl,N1⟩;rw[Qzt]
    have H5:=Ua (Below.next0 H4.out N1);obtain ⟨k0,k1,k2,k3,k4,k5,k6,k7,k8,k9,k10,k11,k12,k13⟩:=Q04 ((Xo1 H2) w4 H5.out);clear N1)
  |(go_at_call 9;refine ((Xe1 HR) W2 (Xo0 HR)).1.mono ?_;rintro r w3 ⟨⟨b,rfl,YY⟩,I0⟩
    obtain rfl:b=true:=YY.2 (Xe2 H1);have H4:=Ua (Below.next0 (Xo0 HR) I0);obtain ⟨k0,k1,k2,k3,k4,k5,k6,k7,k8,k9,k10,k11,k12,k13⟩:=Q04 ((Xo1 H2) w3 H4.out);clear I0 YY))
 go_ret;exact ⟨rfl,Below.next0 (Xo0 H2) H6.out⟩
end Go.Proofs.YtidojbkhlenahaaGreatDoor
namespace Go.Proofs.YtidojbkhlenahaaGreatDoor
open Go.RowKit
theorem Qfr {w:World} {p:Addr} {v:Value} (h:w.cell? p=some v):p.block<w.heap.size:=by
 refine Xak fun B5=>?_;unfold World.cell? at h;rw[Array.getElem?_eq_none B5] at h;simp at h
theorem Qw3 {W:World} (h:laidMet Tryz.prog Rows.problemBackRow.laid W):Lib.TabIs Tryz.prog W "internal/strconv.uint64pow10" .u64 Lib.pow10Tab:=by
 have h1:=h.tail.tail;exact Lib.tabIs_of_head (rest:=_) (t:=249) (e:=83) (n:=20) Qzs (by kernel_rfl) (by kernel_rfl) (by kernel_rfl) (by kernel_rfl) (by kernel_rfl) h1
theorem Qw4 {W:World} (h:laidMet Tryz.prog Rows.problemBackRow.laid W):Q1s W:=by
 have h1:=h.tail;have ht:Lib.TabIs Tryz.prog W "math/bits.deBruijn64tab" .u8 [0,1,56,2,57,49,28,3,61,58,42,50,38,29,17,4,62,47,59,36,45,43,51,22,53,39,33,30,24,18,12,5,63,55,48,27,60,41,37,16,46,35,44,21,52,32,23,11,54,26,40,15,34,20,31,10,25,14,19,9,13,8,7,6]:=
  Lib.tabIs_of_head (rest:=_) (g:=5) (t:=302) (e:=5) (n:=64) (by kernel_rfl) (by kernel_rfl) (by kernel_rfl) (by kernel_rfl) (by kernel_rfl) (by kernel_rfl) h1
 have hc:=fun i hi=>ht.cell (g:=5) (by kernel_rfl) i hi;refine ⟨Qfr (hc 0 (by decide)),fun j hj=>?_⟩;have Yd:j<64:=hj;rw[hc j Yd];have key:∀i:Fin 64,([0,1,56,2,57,49,28,3,61,58,42,50,38,29,17,4,62,47,59,36,45,43,51,22,53,39,33,30,24,18,12,5,63,55,48,27,60,41,37,16,46,35,44,21,52,32,23,11,54,26,40,15,34,20,31,10,25,14,19,9,13,8,7,6]:List Int).getD i.val 0=((Go.Lib.deBruijn64tab.getD i.val 0:Nat):Int):=by decide
 rw[key ⟨j,Yd⟩]
theorem Qyc {W:World} (h:laidMetH Tryz.prog Rows.problemBackRow.laid W) (_hs:W.ShapedOpen Tryz.prog):Qu5 W:=by
 rw[MakeChecks.laidMetH_plain _ _ _ (by kernel_rfl)] at h;have ht:=Qw3 h;exact ⟨ht,Qw4 h,Qfr (ht.cell (g:=1) (by kernel_rfl) 0 (by decide))⟩
section
variable {H:Type} {enc:TypeId × Value->H}
theorem Q9x {C:Checked} {os:Os} {f:FuncId} {fn:Func} {s:OpenSpec} {conds:List PathCond} {apart:Bool} {laid:List (String × DataW Unit)} (modest:Bool) (w0:World) (args:Array Value) (hos:w0.os=os)
 (QL:(w0.forCall (fun _ _=>0) ⟨#[],args,[]⟩).Shaped C.prog) (O1:Input.okWideB C.prog (w0.forCall (fun _ _=>0) ⟨#[],args,[]⟩) f ⟨#[],args,[]⟩=true)
 (A1:s.preRow enc C.prog fn conds apart laid (w0.forCall (fun _ _=>0) ⟨#[],args,[]⟩).memory args):
 ∃(w:World) (tape:Tape) (i:Input),w.os=os/\(w.forCall tape i).Shaped C.prog/\i.vars=[]/\Input.okWide C.prog (w.forCall tape i) .any w.heap.size f i/\
  s.preRow enc C.prog fn conds apart laid (w.forCall tape i).memory i.args/\({ modest:=modest }:Assume).holds C.prog (lone (Frame.enter C.prog f i.args .normal) [] (w.forCall tape i)):=
 ⟨w0,fun _ _=>0,⟨#[],args,[]⟩,hos,QL,(Input.okWide_of_okWideB (base:=0) O1).1,(Input.okWide_of_okWideB O1).2,A1,by
   simp only[Assume.holds];exact ⟨by simp,by simp,fun _=>Modest.zero,by simp,by simp⟩⟩
end
theorem own:ownKnob Tryz.prog.godebug=none:=by kernel_rfl
open Go.ChangeAt Go.ChangeShapes Go.WideShapes
theorem Qjz {H:Type} {enc:TypeId × Value->H} {W:World} {sp:Nat->Bool} {hd:Bool} {a:OA} {len cap:Nat} {d:DataW H} {p:List MemPlace}
 (h:DataW.Trod enc Tryz.prog W 0 sp hd 24 (.slice a len cap) d p):
 ∃ls:LN,ls.length=len/\len<=9223372036854775807/\RdU W W.heap.size a ls/\∀x∈ls,x<18446744073709551616:=by
 obtain ⟨fuel,hf⟩:=h;rcases open_ints Tryz.underlying24 Tryz.underlying83 (by kernel_rfl) hf with ⟨W6,_⟩|⟨x,l,c,zs,W6,_,hl,hm,hz,_,G1,z7⟩
 ·simp[Value.cells] at W6;obtain ⟨rfl,rfl,rfl⟩:=W6;exact ⟨[],rfl,by omega,.inl rfl,by simp⟩
 ·simp[Value.cells] at W6;obtain ⟨rfl,rfl,rfl⟩:=W6;unfold maxLen at hm;have E9:len<=zs.length:=by rw[hz];split <;> omega
  have QA:∀(i:Nat) z,zs[i]?=some z->0<=z/\z<=18446744073709551615:=by
   intro i z hi;have:=z7 z (Ug hi);simpa[Lit.wf,IntKind.min,IntKind.max,IntKind.signed,IntKind.bits] using this
  refine ⟨(zs.take len).map fun n=>n.toNat,by simp;omega,by omega,?_,?_⟩
  ·by_cases h0:len=0
   ·exact .inl (by simp[h0])
   ·obtain ⟨b,o,spot⟩:=x;have h1:=G1 0 (by omega);have KI:spot=none:=(by simpa[Addr.add] using World.cell?_spot h1);subst KI;have hb:b<W.heap.size:=by
     have:=UI h1;rwa[show (Addr.add ⟨b,o,none⟩ 0).block=b by simp[Addr.add]] at this
    refine .inr ⟨b,o,rfl,hb,fun j y hy=>?_⟩;rw[UK] at hy;cases X1:(zs.take len)[j]? with
    |none=>rw[X1] at hy;cases hy
    |some z=>
     rw[X1] at hy;simp only[UE,Up] at hy;subst hy;rw[TL] at X1
     split at X1
     ·next hj=>
      obtain ⟨Q4,M1⟩:=QA j z X1;have hjl:j<zs.length:=(Ui.1 X1).1;have h2:=G1 j hjl;rw[show (⟨b,o,none⟩:Addr).add j=⟨b,o+j,none⟩ by unfold Addr.add;split <;> simp_all] at h2;have e:zs.getD j 0=z:=(by rw[Te,X1];rfl);rw[h2,e];unfold uv
      congr 2;omega
     ·cases X1
  ·intro x hx;obtain ⟨z,hz3,rfl⟩:=Tx.1 hx;obtain ⟨i,hi⟩:=UQ.1 (Ts hz3);have:=QA i z hi;omega
open Go.Joins WordsM
theorem Qpt {H:Type} {enc:TypeId × Value->H} {W:World} {sp:Nat->Bool} {hd:Bool} {fuel:Nat} {v:Value} {y:DataW H × List MemPlace}
 (h:DataW.trod enc Tryz.prog W 0 sp hd fuel 24 [v]=some y):
 ∃(a:OA) (n c:Nat) (ks:LN),v=.slice a n c/\WordsIn W a n c ks:=by
 rcases open_ints Tryz.underlying24 Tryz.underlying83 (by kernel_rfl) h with ⟨W6,_⟩|⟨x,l,c,zs,W6,_,hl,hm,hz,_,_,_⟩
 ·injection W6 with hv _;subst hv;obtain ⟨ls,h1,_,h3,h4⟩:=Qjz ⟨_,h⟩;have h5:ls=[]:=Ty h1;subst h5;exact ⟨none,0,0,[],rfl,⟨rfl,Uf _,by decide,fun _ hx=>(by cases hx),Or.inl rfl⟩⟩
 ·injection W6 with hv _;subst hv;obtain ⟨ls,h1,_,h3,h4⟩:=Qjz ⟨_,h⟩;unfold maxLen at hm;exact ⟨some x,l,c,ls,rfl,⟨h1,hl,by omega,h4,h3⟩⟩
end Go.Proofs.YtidojbkhlenahaaGreatDoor
namespace Go.Proofs.YtidojbkhlenahaaGreatDoor
open Go.ChangeShapes Go.WideShapes Go.Deep Go.RowKit WordsM
section
variable {H:Type} {enc:TypeId × Value->H} {W:World} {sp:Nat->Bool} {hd:Bool} {fuel:Nat} {y:DataW H × List MemPlace} {cs:LV}
theorem Qc5 {α:Type} {S T:TypeId} {k:Nat} (hu:Tryz.prog.underlying S=some (.slice T)) (hC:Tryz.prog.cellsOf T=k) (hk:0<k) (R:α->LV->Prop)
 (hR:∀(n:Nat) (cs:LV) (y:DataW H × List MemPlace),DataW.trod enc Tryz.prog W 0 sp hd n T cs=some y->∃q,R q cs) (h:DataW.trod enc Tryz.prog W 0 sp hd fuel S cs=some y):
 ∃(a:OA) (n c:Nat) (qs:List α),cs=[.slice a n c]/\qs.length=n/\n<=c/\c<=9223372036854775807/\(qs=[]∨∃b o,a=some ⟨b,o,none⟩/\b<W.heap.size/\∀(j:Nat) q,qs[j]?=some q->∃cs,R q cs/\∀(i:Nat) u,cs[i]?=some u->W.cell? ⟨b,o+j*k+i,none⟩=some u):=by
 subst hC;rcases open_slice hu h with ⟨W6,_⟩|⟨x,l,c,m,n,D,Pl,W6,_,hl,hm,Kn,_,hi⟩
 ·exact ⟨none,0,0,[],W6,rfl,Uf _,by decide,.inl rfl⟩
 ·unfold maxLen at hm;have x6:l<=m:=by rw[Kn];split <;> omega
  by_cases h0:l=0
  ·exact ⟨some x,l,c,[],W6,h0.symm,hl,by omega,.inl rfl⟩
  have key:∀i:Fin l,∃q:α,∃cs,R q cs/\cs.length=Tryz.prog.cellsOf T/\∀(j:Nat) u,cs[j]?=some u->W.cell? (x.add (i.val*Tryz.prog.cellsOf T+j))=some u:=by
   intro i;obtain ⟨cs',hc,WN⟩:=hi i.val (by have:=i.isLt;omega);obtain ⟨q,hq⟩:=hR _ _ _ WN;obtain ⟨_,G2,R1⟩:=World.cells?_some hc;refine ⟨q,cs',hq,G2,fun j u hj=>?_⟩;have hj4:j<Tryz.prog.cellsOf T:=(by have:=(Ui.1 hj).1;omega);have:=R1 j hj4;rw[hj] at this;rw[<-Go.Deep.add_add];exact this
  obtain ⟨F,hF⟩:∃F:Fin l->α,∀i,∃cs,R (F i) cs/\cs.length=Tryz.prog.cellsOf T/\∀(j:Nat) u,cs[j]?=some u->W.cell? (x.add (i.val*Tryz.prog.cellsOf T+j))=some u:=⟨fun i=>Classical.choose (key i),fun i=>Classical.choose_spec (key i)⟩;obtain ⟨b,o,spot⟩:=x;obtain ⟨cs0,_,J3,u6⟩:=hF ⟨0,by omega⟩;have h1:=u6 0 _ (Ub (by omega));have KI:spot=none:=by simpa[Addr.add] using World.cell?_spot h1
  subst KI;have hb:b<W.heap.size:=by
   have:=UI h1;rwa[show (Addr.add ⟨b,o,none⟩ ((⟨0,by omega⟩:Fin l).val*Tryz.prog.cellsOf T+0)).block=b by simp[Addr.add]] at this
  refine ⟨some ⟨b,o,none⟩,l,c,(List.finRange l).map F,W6,by simp,hl,by omega,.inr ⟨b,o,rfl,hb,fun j m hm=>?_⟩⟩
  by_cases hj:j<l
  ·obtain rfl:F ⟨j,hj⟩=m:=(by simpa[Ub,hj] using hm);obtain ⟨cs,h2,_,hc⟩:=hF ⟨j,hj⟩;refine ⟨cs,h2,fun i u hu=>?_⟩;have:=hc i u hu;rw[Addr.add_lit] at this;rw[Nat.add_assoc];exact this
  ·rw[UU (by simpa using hj)] at hm;cases hm
theorem Qpu [LT ZK] [Nonempty (PLift (¬Zz))] (h:DataW.trod enc Tryz.prog W 0 sp hd fuel 96 cs=some y):∃(a:OA) (n c:Nat) (E:List Int),cs=[.slice a n c]/\Q0q W a n c E:=by
 obtain ⟨a,n,c,qs,h1,h2,h3,h4,h5⟩:=Qc5 (k:=1) Tryz.underlying96 (by kernel_rfl) (by decide) (fun (q:Int) cs=>cs=[.int .i64 q]/\-9223372036854775808<=q/\q<=9223372036854775807) (fun n cs y h=>by
  obtain ⟨z,e,_,hw⟩:=DataW.trod_int Tryz.underlying3 h;exact ⟨z,e,by simpa[Lit.wf,IntKind.min,IntKind.max,IntKind.signed,IntKind.bits] using hw⟩) h
 refine ⟨a,n,c,qs,h1,h2,h3,h4,⟨fun x hx=>?_,fun _ _ _ hz=>absurd hz zz_f⟩,?_⟩
 ·rcases h5 with rfl|⟨b,o,_,_,hc⟩
  ·cases hx
  ·obtain ⟨j,hj⟩:=UQ.1 hx;obtain ⟨_,⟨_,h6⟩,_⟩:=hc j x hj;exact h6
 ·rcases h5 with h5|⟨b,o,h6,h7,hc⟩
  ·exact .inl h5
  ·refine .inr ⟨b,o,h6,h7,fun j x hx=>?_⟩;obtain ⟨cs,⟨rfl,_⟩,hd⟩:=hc j x hx;have:=hd 0 _ rfl;rwa[Xbm] at this
theorem Q6m (h:DataW.trod enc Tryz.prog W 0 sp hd fuel 26 cs=some y):∃(x:Q39) (p:Pl),cs=[.bool x.neg,.int .i64 x.exp,.slice p.a p.l p.c]/\Q0i W p.a p.l p.c x:=by
 obtain ⟨zs,n2,_,_,K0,E9,hg⟩:=DataW.trod_struct Tryz.underlying26 h;have Qd:cs.length=3:=K0;have g0:=hg 0 _ rfl;have g1:=hg 1 _ rfl;have g2:=hg 2 _ rfl
 match cs,Qd,zs,E9 with
 |[c0,c1,c2],_,[z0,z1,z2],_=>
  have g0:DataW.trod enc Tryz.prog W 0 sp hd n2 4 [c0]=some z0:=g0;have g1:DataW.trod enc Tryz.prog W 0 sp hd n2 2 [c1]=some z1:=g1;have g2:DataW.trod enc Tryz.prog W 0 sp hd n2 24 [c2]=some z2:=g2;obtain ⟨neg,e0,_⟩:=DataW.trod_bool Tryz.underlying4 g0;obtain ⟨exp,e1,_,hw⟩:=DataW.trod_int Tryz.underlying2 g1;obtain ⟨a,n,c,ks,e2,Zb⟩:=Qpt g2;injection e0 with e0 _;injection e1 with e1 _;subst e0 e1 e2;have hr: -9223372036854775808<=exp/\exp<=9223372036854775807:=by
   simpa[Lit.wf,IntKind.min,IntKind.max,IntKind.signed,IntKind.bits] using hw
  exact ⟨⟨neg,exp,ks⟩,⟨a,n,c⟩,rfl,Zb,hr.1,hr.2⟩
theorem Qtp [LT ZK] [Nonempty (PLift (¬Zz))] (h:DataW.trod enc Tryz.prog W 0 sp hd fuel 98 cs=some y):
 ∃(m:Q00) (p q:Pl),cs=[.bool m.neg,.int .i64 m.exp,.slice p.a p.l p.c,.slice q.a q.l q.c]/\Q0i W p.a p.l p.c ⟨m.neg,m.exp,m.ws⟩/\Q0q W q.a q.l q.c m.es:=by
 obtain ⟨ys,n1,_,_,K0,B9,hf⟩:=DataW.trod_struct Tryz.underlying98 h;have Jq:cs.length=4:=K0;have hN:=hf 0 _ rfl;have hE:=hf 1 _ rfl
 match cs,Jq,ys,B9 with
 |[c0,c1,c2,c3],_,[y0,y1],_=>
  have hE:DataW.trod enc Tryz.prog W 0 sp hd n1 96 [c3]=some y1:=hE;have hN:DataW.trod enc Tryz.prog W 0 sp hd n1 26 [c0,c1,c2]=some y0:=hN;obtain ⟨x,p,e1,h1⟩:=Q6m hN;obtain ⟨a,n,c,E,e2,h2⟩:=Qpu hE;injection e1 with e3 e1;injection e1 with e4 e1;injection e1 with e5 _;injection e2 with e2 _;subst e3 e4 e5 e2;exact ⟨⟨x.neg,x.exp,x.ws,E⟩,p,⟨a,n,c⟩,rfl,h1,h2⟩
theorem Qpv [LT ZK] [Nonempty (PLift (¬Zz))] (h:DataW.trod enc Tryz.prog W 0 sp hd fuel 42 cs=some y):∃(a:OA) (n c:Nat) (ms:List Q00),cs=[.slice a n c]/\Q0e W a n c ms:=by
 obtain ⟨a,n,c,qs,h1,h2,h3,h4,h5⟩:=Qc5 (k:=4) Tryz.underlying42 (by kernel_rfl) (by decide) (fun (m:Q00) cs=>∃p q:Pl,cs=[.bool m.neg,.int .i64 m.exp,.slice p.a p.l p.c,.slice q.a q.l q.c]/\Q0i W p.a p.l p.c ⟨m.neg,m.exp,m.ws⟩/\Q0q W q.a q.l q.c m.es) (fun n cs y h=>Qtp h) h;refine ⟨a,n,c,qs,h1,h2,h3,h4,h5.imp id fun ⟨b,o,h6,h7,hc⟩=>⟨b,o,h6,h7,fun j m hm=>?_⟩⟩;obtain ⟨cs,⟨p,q,rfl,k1,k2⟩,hd⟩:=hc j m hm;exact ⟨_,_,_,_,_,_,hd 0 _ rfl,hd 1 _ rfl,hd 2 _ rfl,hd 3 _ rfl,k1.lie,k2,k1.lo,k1.hi⟩
theorem Qpw [LT ZK] [Nonempty (PLift (¬Zz))] (h:DataW.trod enc Tryz.prog W 0 sp hd fuel 22 cs=some y):∃(p:Pl) (F:List (List Q00)),cs=[.slice p.a p.l p.c]/\Q1v W p.a p.l p.c F:=by
 obtain ⟨a,n,c,qs,h1,h2,h3,h4,h5⟩:=Qc5 (k:=1) Tryz.underlying22 (by kernel_rfl) (by decide) (fun (ms:List Q00) cs=>∃p l d,cs=[.slice p l d]/\Q0e W p l d ms) (fun n cs y h=>by
  obtain ⟨a,n,c,ms,e,hm⟩:=Qpv h;exact ⟨ms,a,n,c,e,hm⟩) h
 refine ⟨⟨a,n,c⟩,qs,h1,h2,h3,h4,h5.imp id fun ⟨b,o,h6,h7,hc⟩=>⟨b,o,h6,h7,fun j m hm=>?_⟩⟩;obtain ⟨cs,⟨p,l,d,rfl,k1⟩,hd⟩:=hc j m hm;have:=hd 0 _ rfl;rw[Xbm] at this;exact ⟨p,l,d,this,k1⟩
theorem Qyd (h:DataW.trod enc Tryz.prog W 0 sp hd fuel 44 cs=some y):
 ∃(x:IvV) (p q:Pl),cs=[.bool x.lo.neg,.int .i64 x.lo.exp,.slice p.a p.l p.c,.bool x.hi.neg,.int .i64 x.hi.exp,.slice q.a q.l q.c]/\Q0i W p.a p.l p.c x.lo/\Q0i W q.a q.l q.c x.hi:=by
 obtain ⟨ys,n1,_,_,K0,B9,hf⟩:=DataW.trod_struct Tryz.underlying44 h;have WF:cs.length=6:=K0;have hN:=hf 0 _ rfl;have hE:=hf 1 _ rfl
 match cs,WF,ys,B9 with
 |[c0,c1,c2,c3,c4,c5],_,[y0,y1],_=>
  have hE:DataW.trod enc Tryz.prog W 0 sp hd n1 26 [c3,c4,c5]=some y1:=hE;have hN:DataW.trod enc Tryz.prog W 0 sp hd n1 26 [c0,c1,c2]=some y0:=hN;obtain ⟨x,p,e1,h1⟩:=Q6m hN;obtain ⟨z,q,e2,h2⟩:=Q6m hE;exact ⟨⟨x,z⟩,p,q,by rw[show [c0,c1,c2,c3,c4,c5]=[c0,c1,c2]++[c3,c4,c5] from rfl,e1,e2];rfl,h1,h2⟩
theorem Qw5 (h:DataW.trod enc Tryz.prog W 0 sp hd fuel 23 cs=some y):∃(p:Pl) (B:List IvV),cs=[.slice p.a p.l p.c]/\Q86 W p.a p.l p.c B:=by
 obtain ⟨a,n,c,qs,h1,h2,h3,h4,h5⟩:=Qc5 (k:=6) Tryz.underlying23 (by kernel_rfl) (by decide) (fun (x:IvV) cs=>∃p q:Pl,cs=[.bool x.lo.neg,.int .i64 x.lo.exp,.slice p.a p.l p.c,.bool x.hi.neg,.int .i64 x.hi.exp,.slice q.a q.l q.c]/\Q0i W p.a p.l p.c x.lo/\Q0i W q.a q.l q.c x.hi) (fun n cs y h=>Qyd h) h;refine ⟨⟨a,n,c⟩,qs,h1,h2,h3,h4,h5.imp id fun ⟨b,o,h6,h7,hc⟩=>⟨b,o,h6,h7,fun j m hm=>?_⟩⟩;obtain ⟨cs,⟨p,q,rfl,k1,k2⟩,hd⟩:=hc j m hm;exact ⟨_,_,_,_,_,_,⟨hd 0 _ rfl,hd 1 _ rfl,hd 2 _ rfl,hd 3 _ rfl,hd 4 _ rfl,hd 5 _ rfl⟩,k1,k2⟩
theorem Qk0 [LT ZK] [Nonempty (PLift (¬Zz))] (h:DataW.trod enc Tryz.prog W 0 sp hd fuel 28 cs=some y):∃(p:Qgo) (x:Q33),cs=Q46 p x/\Q2g W p x:=by
 obtain ⟨ys,n1,_,_,K0,B9,hf⟩:=DataW.trod_struct Tryz.underlying28 h;have hl:cs.length=14:=K0;have h0:=hf 0 _ rfl;have h1:=hf 1 _ rfl;have h2:=hf 2 _ rfl;have h3:=hf 3 _ rfl;have h4:=hf 4 _ rfl;have h5:=hf 5 _ rfl;have h6:=hf 6 _ rfl;have h7:=hf 7 _ rfl
 match cs,hl,ys,B9 with
 |[c0,c1,c2,c3,c4,c5,c6,c7,c8,c9,c10,c11,c12,c13],_,[y0,y1,y2,y3,y4,y5,y6,y7],_=>
  have h0:DataW.trod enc Tryz.prog W 0 sp hd n1 22 [c0]=some y0:=h0;have h1:DataW.trod enc Tryz.prog W 0 sp hd n1 23 [c1]=some y1:=h1;have h2:DataW.trod enc Tryz.prog W 0 sp hd n1 26 [c2,c3,c4]=some y2:=h2;have h3:DataW.trod enc Tryz.prog W 0 sp hd n1 26 [c5,c6,c7]=some y3:=h3;have h4:DataW.trod enc Tryz.prog W 0 sp hd n1 26 [c8,c9,c10]=some y4:=h4;have h5:DataW.trod enc Tryz.prog W 0 sp hd n1 3 [c11]=some y5:=h5;have h6:DataW.trod enc Tryz.prog W 0 sp hd n1 3 [c12]=some y6:=h6;have h7:DataW.trod enc Tryz.prog W 0 sp hd n1 3 [c13]=some y7:=h7;obtain ⟨pf,F,e0,g0⟩:=Qpw h0;obtain ⟨pb,B,e1,g1⟩:=Qw5 h1;obtain ⟨t,pt,e2,g2⟩:=Q6m h2;obtain ⟨m,pm,e3,g3⟩:=Q6m h3;obtain ⟨l,pe,e4,g4⟩:=Q6m h4;obtain ⟨k1,e5,_⟩:=DataW.trod_int Tryz.underlying3 h5;obtain ⟨k2,e6,_⟩:=DataW.trod_int Tryz.underlying3 h6;obtain ⟨k3,e7,_⟩:=DataW.trod_int Tryz.underlying3 h7;refine ⟨⟨pf,pb,pt,pm,pe⟩,⟨F,B,t,m,l,k1,k2,k3⟩,?_,⟨g0,g1,g2,g3,g4⟩⟩;rw[show [c0,c1,c2,c3,c4,c5,c6,c7,c8,c9,c10,c11,c12,c13]=[c0]++[c1]++[c2,c3,c4]++[c5,c6,c7]++[c8,c9,c10]++[c11]++[c12]++[c13] from rfl,e0,e1,e2,e3,e4,e5,e6,e7];rfl
end
end Go.Proofs.YtidojbkhlenahaaGreatDoor
namespace Go.Proofs.YtidojbkhlenahaaGreatDoor
open Go.RowKit WordsM
theorem Q2r (x y:Q39) (a b:OA) (l c m d:Nat) (w:World) (h1:Q0i w a l c x) (h2:Q0i w b m d y):
 Calls Tryz.prog 33 #[.agg #[.bool x.neg,.int .i64 x.exp,.slice a l c],.agg #[.bool y.neg,.int .i64 y.exp,.slice b m d]] w fun r w'=>Q09 (x=y) r/\Bw w w':=
 (Qcx x.neg x.exp a l c x.ws y.neg y.exp b m d y.ws w h1.lie h2.lie (Ul h1.lie.cap h1.lie.most)).mono fun r w' ⟨h,hb⟩=>⟨Q09.of Qmv h,hb⟩
--POLYS--
theorem Qtq {f:FuncId} {args:Array Value} {w:World} {u z:Int} (h:Calls Tryz.prog f args w fun r w'=>r=.returned (.int .i64 u)/\∃k,w'=w.drewN k) (hz:u=z):Calls Tryz.prog f args w fun r w'=>r=.returned (.int .i64 z)/\Bw w w':=by
 subst hz;refine h.mono ?_;rintro r w2 ⟨rfl,k,rfl⟩;exact ⟨rfl,Q16 (Uc _ _) _⟩
theorem Qe4 [LT ZK] (a b:OA) (n c m d:Nat) (ms ks:List Q00) (w:World) (h1:Q0e w a n c ms) (h2:Q0e w b m d ks):
 Calls Tryz.prog 63 #[.slice a n c,.slice b m d] w fun r w'=>Q09 (ms=ks) r/\Bw w w':=by
 have Q2:=h1.1;have x6:=h2.1;have R2:=Ul h1.2.1 h1.2.2.1;have Zm:=Ul h2.2.1 h2.2.2.1;have H:=Xh2 h1 h2;clear h1 h2
 by_cases ZT:n=m
 case neg=>
  have A8:¬(n:Int)=(m:Int):=by omega
  go_enter Tryz.func63,Tryz.ntmps63
  go_wp2_with fail
  go_ret;exact ⟨Q09.no (Qd8 Q2 x6 A8) rfl,Uc _ _⟩
 case pos=>
 subst ZT
 go_enter Tryz.func63,Tryz.ntmps63
 go_wp2_with fail
 go_loopw [5] (fun s5 wr=>∃i:Nat,s5=.int .i64 (i:Int)/\i<=n/\(∀j,j<i->ms[j]?=ks[j]?)/\Bw w wr) (fun iv _=>n-(intOf iv).toNat)
 case atStart=>exact ⟨0,rfl,Ut _,fun j hj=>absurd hj (Tk _),Uc _ _⟩
 case round=>
  obtain ⟨i,rfl,hi,hq,M0⟩:=hrel
  by_cases E0:i<n
  ·have F0:(i:Int)<(n:Int):=(by omega);obtain ⟨x,hx⟩:∃x,ms[i]?=some x:=⟨_,Ub (by omega)⟩;obtain ⟨y,hy⟩:∃x,ks[i]?=some x:=⟨_,Ub (by omega)⟩;obtain ⟨b1,o1,rfl,A0,Ju⟩:=Qbu ((Xo0 H).step M0) hx;obtain ⟨b2,o2,rfl,D0,ZJ⟩:=Qbu ((Xe1 H).step M0) hy;obtain ⟨aw,lw,cw,ae,le,ce,⟨k0,k1,k2,k3⟩,hw,he⟩:=Qbt Ju;obtain ⟨bw,lv,cv,be,lf,cf,⟨l0,l1,l2,l3⟩,R4,D5⟩:=Qbt ZJ;obtain ⟨bb,Y2⟩:∃b,yesB (x.num=y.num)=b:=⟨_,rfl⟩;have B5:=he.len;have hlf:=D5.len;have YH:=fun (W:World) (hB:Bw wr W)=>yn1 (Q2r x.num y.num aw bw lw cw lv cv W (hw.step hB) (R4.step hB)) Y2;simp only[Q00.num] at YH;have VY:=fun (W:World) (hB:Bw wr W)=>And.intro (And.intro ((hB.cell (p:=⟨b1,o1+i*4,none⟩) A0).trans k0) (And.intro ((hB.cell (p:=⟨b1,o1+i*4+1,none⟩) A0).trans k1) (And.intro ((hB.cell (p:=⟨b1,o1+i*4+2,none⟩) A0).trans k2) ((hB.cell (p:=⟨b1,o1+i*4+3,none⟩) A0).trans k3)))) (And.intro ((hB.cell (p:=⟨b2,o2+i*4,none⟩) D0).trans l0) (And.intro ((hB.cell (p:=⟨b2,o2+i*4+1,none⟩) D0).trans l1) (And.intro ((hB.cell (p:=⟨b2,o2+i*4+2,none⟩) D0).trans l2) ((hB.cell (p:=⟨b2,o2+i*4+3,none⟩) D0).trans l3))));have HS:=Xh4 M0 hq hx hy
   go_upto_region 6 with fail
   cases bb
   ·have HC:=Ua (fun W hW=>And.intro (VY W hW).1 (And.intro (VY W hW).2 (YH W hW)));have HN:=Ua (fun e:x=y=>Q5e Y2 (Q9m.1 e).1);clear VY YH M0 hx hy hq Y2 B5 hlf k0 k1 k2 k3 l0 l1 l2 l3 hw R4 he D5 Ju ZJ;refine Q06 (E:=Q8a) (fun _=>Uc _ _) (by kernel_rfl) (fun W=>Bw wr W) (fun _ _ h h'=>Below.next0 h h') (Q40 [.slice (some ⟨b1,o1,none⟩) n c,.int .i64 (i:Int),.pointer (some ⟨b1,o1+i*4,none⟩),.pointer (some ⟨b1,o1+i*4,none⟩),.agg #[.bool x.neg,.int .i64 x.exp,.slice aw lw cw],.slice (some ⟨b2,o2,none⟩) n d,.int .i64 (i:Int),.pointer (some ⟨b2,o2+i*4,none⟩),.pointer (some ⟨b2,o2+i*4,none⟩),.agg #[.bool y.neg,.int .i64 y.exp,.slice bw lv cv],.bool false,.bool true,.bool true,undef,undef,undef,undef,undef,undef,undef,undef,undef,undef,undef,undef,undef,.bool true,.bool true,undef,undef,undef,undef,undef,undef,undef,undef,undef,undef,undef,undef,.bool true] (Q1h [])) (Q0c (Q0h ((fun p hp=>by cases hp)))) (Q0w (by kernel_rfl)) (by kernel_rfl) (Q01 wr) ?_ ?_
    ·skip
     repeat' (first|exact Q8n|refine Q8m ?_ ?_)
     all_goals first
      |exact Qgk rfl rfl rfl
      |(refine Q1u rfl fun A W hW G0 hd hd=>?_
        simp[Q7q,Region.binds,Q1h] at hd;have e0:=Q0d G0 0 (by kernel_rfl) rfl;have e5:=Q0d G0 5 (by kernel_rfl) rfl;have e1:=Q0d G0 1 (by kernel_rfl) rfl;obtain ⟨k0,k1,k2,k3⟩:=(HC.out W hW).1;obtain ⟨l0,l1,l2,l3⟩:=(HC.out W hW).2.1
        first
        |(refine Q2x rfl rfl ?_;simp[go_sem,hd,e0,e5,e1,F0,k0,k1,k2,k3,l0,l1,l2,l3];done)
        |(refine Q29 rfl rfl ?_ ((HC.out W hW).2.2);simp[go_sem,hd];done))
    intro vs W1 I1 K2;have HB:=Ua I1;have e40:vs 40=.bool true:=(Q0f rfl).1 (K2 40 (by decide));simp only[Q0r,Act.put,Ur,Ux,Uv,e40];clear I1 K2 e40
    go_wp2_with fail
    go_ret;exact ⟨Q09.no (Q6w (Xo2 HS) (Xe3 HS) HN.out) rfl,Below.next0 (Xo0 HS) HB.out⟩
   by_cases XY:le=lf
   case neg=>
    have hlf:¬(le:Int)=(lf:Int):=(by omega);have HC:=Ua (fun W hW=>And.intro (VY W hW).1 (And.intro (VY W hW).2 (YH W hW)));have HN:=Ua (fun e:x=y=>XY (by rw[<-he.len,<-D5.len,e]));clear VY YH M0 hx hy hq Y2 B5 XY k0 k1 k2 k3 l0 l1 l2 l3 hw R4 he D5 Ju ZJ;refine Q06 (E:=Q8a) (fun _=>Uc _ _) (by kernel_rfl) (fun W=>Bw wr W) (fun _ _ h h'=>Below.next0 h h') (Q40 [.slice (some ⟨b1,o1,none⟩) n c,.int .i64 (i:Int),.pointer (some ⟨b1,o1+i*4,none⟩),.pointer (some ⟨b1,o1+i*4,none⟩),.agg #[.bool x.neg,.int .i64 x.exp,.slice aw lw cw],.slice (some ⟨b2,o2,none⟩) n d,.int .i64 (i:Int),.pointer (some ⟨b2,o2+i*4,none⟩),.pointer (some ⟨b2,o2+i*4,none⟩),.agg #[.bool y.neg,.int .i64 y.exp,.slice bw lv cv],.bool true,.bool false,.bool false,.slice (some ⟨b1,o1,none⟩) n c,.int .i64 (i:Int),.pointer (some ⟨b1,o1+i*4,none⟩),.pointer (some ⟨b1,o1+i*4+3,none⟩),.slice ae le ce,.int .i64 (le:Int),.slice (some ⟨b2,o2,none⟩) n d,.int .i64 (i:Int),.pointer (some ⟨b2,o2+i*4,none⟩),.pointer (some ⟨b2,o2+i*4+3,none⟩),.slice be lf cf,.int .i64 (lf:Int),.bool true,.bool true,.bool true,undef,undef,undef,undef,undef,undef,undef,undef,undef,undef,undef,undef,.bool true] (Q1h [])) (Q0c (Q0h ((fun p hp=>by cases hp)))) (Q0w (by kernel_rfl)) (by kernel_rfl) (Q01 wr) ?_ ?_
    ·skip
     repeat' (first|exact Q8n|refine Q8m ?_ ?_)
     all_goals first
      |exact Qgk rfl rfl rfl
      |(refine Q1u rfl fun A W hW G0 hd hd=>?_
        simp[Q7q,Region.binds,Q1h] at hd;have e0:=Q0d G0 0 (by kernel_rfl) rfl;have e5:=Q0d G0 5 (by kernel_rfl) rfl;have e1:=Q0d G0 1 (by kernel_rfl) rfl;obtain ⟨k0,k1,k2,k3⟩:=(HC.out W hW).1;obtain ⟨l0,l1,l2,l3⟩:=(HC.out W hW).2.1
        first
        |(refine Q2x rfl rfl ?_;simp[go_sem,hd,e0,e5,e1,F0,k0,k1,k2,k3,l0,l1,l2,l3,hlf];done)
        |(refine Q29 rfl rfl ?_ ((HC.out W hW).2.2);simp[go_sem,hd];done))
    intro vs W1 I1 K2;have HB:=Ua I1;have e40:vs 40=.bool true:=(Q0f rfl).1 (K2 40 (by decide));simp only[Q0r,Act.put,Ur,Ux,Uv,e40];clear I1 K2 e40
    go_wp2_with fail
    go_ret;exact ⟨Q09.no (Q6w (Xo2 HS) (Xe3 HS) HN.out) rfl,Below.next0 (Xo0 HS) HB.out⟩
   case pos=>
   subst XY;obtain ⟨z,hz⟩:∃z,Q3e x.es y.es=z:=⟨_,rfl⟩;obtain ⟨zb,hzb⟩:∃q,(!(z==0))=q:=⟨_,rfl⟩;have hzb3:(z != 0)=zb:=hzb;have JY:zb=false↔x=y:=by
    rw[<-hzb,Q9m];have:=Q0b.1 Y2;have h0:=Q8i x.es y.es;rw[hz] at h0;simp[this,h0]
   have HC:=Ua (fun (W:World) (hW:Bw wr W)=>And.intro (VY W hW).1 (And.intro (VY W hW).2 (And.intro (YH W hW) (Qtq (Q8g ae le ce x.es be cf y.es W (he.step hW) (D5.step hW)) hz))));have HN:=Ua JY;clear VY YH M0 hx hy hq Y2 B5 hlf k0 k1 k2 k3 l0 l1 l2 l3 hw R4 he D5 Ju ZJ hz JY;refine Q06 (E:=Q8a) (fun _=>Uc _ _) (by kernel_rfl) (fun W=>Bw wr W) (fun _ _ h h'=>Below.next0 h h') (Q40 [.slice (some ⟨b1,o1,none⟩) n c,.int .i64 (i:Int),.pointer (some ⟨b1,o1+i*4,none⟩),.pointer (some ⟨b1,o1+i*4,none⟩),.agg #[.bool x.neg,.int .i64 x.exp,.slice aw lw cw],.slice (some ⟨b2,o2,none⟩) n d,.int .i64 (i:Int),.pointer (some ⟨b2,o2+i*4,none⟩),.pointer (some ⟨b2,o2+i*4,none⟩),.agg #[.bool y.neg,.int .i64 y.exp,.slice bw lv cv],.bool true,.bool false,.bool false,.slice (some ⟨b1,o1,none⟩) n c,.int .i64 (i:Int),.pointer (some ⟨b1,o1+i*4,none⟩),.pointer (some ⟨b1,o1+i*4+3,none⟩),.slice ae le ce,.int .i64 (le:Int),.slice (some ⟨b2,o2,none⟩) n d,.int .i64 (i:Int),.pointer (some ⟨b2,o2+i*4,none⟩),.pointer (some ⟨b2,o2+i*4+3,none⟩),.slice be le cf,.int .i64 (le:Int),.bool false,.bool false,.bool false,.slice (some ⟨b1,o1,none⟩) n c,.int .i64 (i:Int),.pointer (some ⟨b1,o1+i*4,none⟩),.pointer (some ⟨b1,o1+i*4+3,none⟩),.slice ae le ce,.slice (some ⟨b2,o2,none⟩) n d,.int .i64 (i:Int),.pointer (some ⟨b2,o2+i*4,none⟩),.pointer (some ⟨b2,o2+i*4+3,none⟩),.slice be le cf,.int .i64 z,.bool zb,.bool zb] (Q1h [])) (Q0c (Q0h ((fun p hp=>by cases hp)))) (Q0w (by kernel_rfl)) (by kernel_rfl) (Q01 wr) ?_ ?_
   ·skip
    repeat' (first|exact Q8n|refine Q8m ?_ ?_)
    all_goals first
     |exact Qgk rfl rfl rfl
     |(refine Q1u rfl fun A W hW G0 hd hd=>?_
       simp[Q7q,Region.binds,Q1h] at hd;have e0:=Q0d G0 0 (by kernel_rfl) rfl;have e5:=Q0d G0 5 (by kernel_rfl) rfl;have e1:=Q0d G0 1 (by kernel_rfl) rfl;obtain ⟨k0,k1,k2,k3⟩:=(HC.out W hW).1;obtain ⟨l0,l1,l2,l3⟩:=(HC.out W hW).2.1
       first
       |(refine Q2x rfl rfl ?_;simp[go_sem,hd,e0,e5,e1,F0,k0,k1,k2,k3,l0,l1,l2,l3,hzb3];done)
       |(refine Q29 rfl rfl ?_ ((HC.out W hW).2.2.1);simp[go_sem,hd];done)
       |(refine Q29 rfl rfl ?_ (((HC.out W hW).2.2.2));simp[go_sem,hd];done))
   intro vs W1 I1 K2;have HB:=Ua I1;have e40:vs 40=.bool zb:=(Q0f rfl).1 (K2 40 (by decide));simp only[Q0r,Act.put,Ur,Ux,Uv,e40];clear I1 K2 e40;cases zb
   ·go_wp2_with fail
    have e:=HN.out.1 (by trivial);exact ⟨⟨i+1,congrArg (Value.int .i64) (by omega),by omega,Q5g (Xo1 HS) (Xo2 HS) (by rw[e];exact (Xe3 HS)),Below.next0 (Xo0 HS) HB.out⟩,by simp only[intOf];omega⟩
   ·go_wp2_with fail
    go_ret;exact ⟨Q09.no (Q6w (Xo2 HS) (Xe3 HS) fun e=>by have:=HN.out.2 e;cases this) rfl,Below.next0 (Xo0 HS) HB.out⟩
  ·have F0:¬(i:Int)<(n:Int):=(by omega);have HS:=Xh2 M0 (Q5f Q2 x6 fun j hj=>hq j (by omega));clear M0 hq
   go_wp2_with fail
   go_ret;exact ⟨Q09.yes (Xe1 HS) rfl,(Xo0 HS)⟩
--POLYE--
theorem Qbi [LT ZK] (a b:OA) (n c m d:Nat) (F G:List (List Q00)) (w:World) (h1:Q1v w a n c F) (h2:Q1v w b m d G):
 Calls Tryz.prog 31 #[.slice a n c,.slice b m d] w fun r w'=>Q09 (F=G) r/\Bw w w':=by
 have Q2:=h1.1;have x6:=h2.1;have R2:=Ul h1.2.1 h1.2.2.1;have Zm:=Ul h2.2.1 h2.2.2.1;have H:=Xh2 h1 h2;clear h1 h2
 by_cases ZT:n=m
 case neg=>
  have A8:¬(n:Int)=(m:Int):=by omega
  go_enter Tryz.func31,Tryz.ntmps31
  go_wp2_with fail
  go_ret;exact ⟨Q09.no (Qd8 Q2 x6 A8) rfl,Uc _ _⟩
 case pos=>
 subst ZT
 go_enter Tryz.func31,Tryz.ntmps31
 go_wp2_with fail
 go_loopw [5] (fun s5 wr=>∃i:Nat,s5=.int .i64 (i:Int)/\i<=n/\(∀j,j<i->F[j]?=G[j]?)/\Bw w wr) (fun iv _=>n-(intOf iv).toNat)
 case atStart=>exact ⟨0,rfl,Ut _,fun j hj=>absurd hj (Tk _),Uc _ _⟩
 case round=>
  obtain ⟨i,rfl,hi,hq,M0⟩:=hrel
  by_cases E0:i<n
  ·have F0:(i:Int)<(n:Int):=(by omega);obtain ⟨ms,hx⟩:∃ms,F[i]?=some ms:=⟨_,Ub (by omega)⟩;obtain ⟨ks,hy⟩:∃ms,G[i]?=some ms:=⟨_,Ub (by omega)⟩;obtain ⟨b1,o1,rfl,A0,p,l,dd,k0,ZW⟩:=Q9n ((Xo0 H).step M0) hx;obtain ⟨b2,o2,rfl,D0,p2,l2,d2,k1,Je⟩:=Q9n ((Xe1 H).step M0) hy;obtain ⟨bb,Y2⟩:∃b,yesB (ms=ks)=b:=⟨_,rfl⟩;have HC:=Ua (fun (W:World) (hB:Bw wr W)=>And.intro ((hB.cell (p:=⟨b1,o1+i,none⟩) A0).trans k0) (And.intro ((hB.cell (p:=⟨b2,o2+i,none⟩) D0).trans k1) (yn1 (Qe4 p p2 l dd l2 d2 ms ks W (ZW.step hB) (Je.step hB)) Y2)));have HS:=Xh5 M0 hq hx hy Y2;clear M0 k0 k1 ZW Je hx hy hq Y2
   go_upto_region 6 with fail
   refine Q06 (E:=Q8a) (fun _=>Uc _ _) (by kernel_rfl) (fun W=>Bw wr W) (fun _ _ h h'=>Below.next0 h h') (Q40 [.slice (some ⟨b1,o1,none⟩) n c,.int .i64 (i:Int),.pointer (some ⟨b1,o1+i,none⟩),.slice p l dd,.slice (some ⟨b2,o2,none⟩) n d,.int .i64 (i:Int),.pointer (some ⟨b2,o2+i,none⟩),.slice p2 l2 d2,.bool bb,.bool (!bb)] (Q1h [])) (Q0c (Q0h ((fun p hp=>by cases hp)))) (Q0w (by kernel_rfl)) (by kernel_rfl) (Q01 wr) ?_ ?_
   ·skip
    repeat' (first|exact Q8n|refine Q8m ?_ ?_)
    all_goals
     refine Q1u rfl fun A W hW G0 hd hd=>?_;simp[Q7q,Region.binds,Q1h] at hd;have e0:=Q0d G0 0 (by kernel_rfl) rfl;have e5:=Q0d G0 5 (by kernel_rfl) rfl;have e1:=Q0d G0 1 (by kernel_rfl) rfl
     first
     |(refine Q2x rfl rfl ?_;simp[go_sem,hd,e0,e5,e1,F0,(HC.out W hW).1,(HC.out W hW).2.1];done)
     |(refine Q29 rfl rfl ?_ ((HC.out W hW).2.2);simp[go_sem,hd];done)
   intro vs W1 I1 K2;have HB:=Ua I1;have e9:vs 9=.bool (!bb):=(Q0f rfl).1 (K2 9 (by decide));simp only[Q0r,Act.put,Ur,Ux,Uv,e9];clear I1 K2 e9;cases bb
   ·go_wp2_with fail
    go_ret;exact ⟨Q09.no (Q6w (Xo2 HS) (Xo3 HS) fun e=>by have:=(Xe4 HS);rw[Q0b.2 e] at this;cases this) rfl,Below.next0 (Xo0 HS) HB.out⟩
   ·go_wp2_with fail
    have e:=Q0b.1 (Xe4 HS);exact ⟨⟨i+1,congrArg (Value.int .i64) (by omega),by omega,Q5g (Xo1 HS) (Xo2 HS) (by rw[e];exact (Xo3 HS)),Below.next0 (Xo0 HS) HB.out⟩,by simp only[intOf];omega⟩
  ·have F0:¬(i:Int)<(n:Int):=(by omega);have HS:=Xh2 M0 (Q5f Q2 x6 fun j hj=>hq j (by omega));clear M0 hq
   go_wp2_with fail
   go_ret;exact ⟨Q09.yes (Xe1 HS) rfl,(Xo0 HS)⟩
theorem Qh7 (x y:IvV) (p q r s:Pl) (w:World) (h1:Q0i w p.a p.l p.c x.lo) (h2:Q0i w q.a q.l q.c x.hi) (h3:Q0i w r.a r.l r.c y.lo) (h4:Q0i w s.a s.l s.c y.hi):
 Calls Tryz.prog 64 #[.agg #[.bool x.lo.neg,.int .i64 x.lo.exp,.slice p.a p.l p.c,.bool x.hi.neg,.int .i64 x.hi.exp,.slice q.a q.l q.c],.agg #[.bool y.lo.neg,.int .i64 y.lo.exp,.slice r.a r.l r.c,.bool y.hi.neg,.int .i64 y.hi.exp,.slice s.a s.l s.c]] w fun r w'=>Q09 (x=y) r/\Bw w w':=by
 obtain ⟨W0,E1⟩:∃W0,(w.alloc (.cells #[.bool x.lo.neg,.int .i64 x.lo.exp,.slice p.a p.l p.c,.bool x.hi.neg,.int .i64 x.hi.exp,.slice q.a q.l q.c] 44)).alloc (.cells #[.bool y.lo.neg,.int .i64 y.lo.exp,.slice r.a r.l r.c,.bool y.hi.neg,.int .i64 y.hi.exp,.slice s.a s.l s.c] 44)=W0:=⟨_,rfl⟩;obtain ⟨hX,hY,Z0,Y1⟩:=Q7s [.bool x.lo.neg,.int .i64 x.lo.exp,.slice p.a p.l p.c,.bool x.hi.neg,.int .i64 x.hi.exp,.slice q.a q.l q.c] [.bool y.lo.neg,.int .i64 y.lo.exp,.slice r.a r.l r.c,.bool y.hi.neg,.int .i64 y.hi.exp,.slice s.a s.l s.c] 44 E1;obtain ⟨b1,e1⟩:∃b,yesB (x.lo=y.lo)=b:=⟨_,rfl⟩;obtain ⟨b2,e2⟩:∃b,yesB (x.hi=y.hi)=b:=⟨_,rfl⟩;have i4:b1=false->¬x=y:=fun h e=>by rw[Q0b.2 (Qf7.1 e).1] at e1;rw[<-e1] at h;cases h
 have QQ:b1=true->(b2=true↔x=y):=fun h=>by
  rw[<-e2,Q0b];exact ⟨fun h2=>Qf7.2 ⟨Q0b.1 (e1.trans h),h2⟩,fun e=>(Qf7.1 e).2⟩
 have HC:=Ua (fun V (hV:Bw W0 V)=>have hb:=Below.next0 Z0 hV;And.intro (hX.step hV (by omega)) (And.intro (hY.step hV (by omega)) (And.intro (yn1 (Q2r x.lo y.lo p.a r.a p.l p.c r.l r.c V (h1.step hb) (h3.step hb)) e1) (yn1 (Q2r x.hi y.hi q.a s.a q.l q.c s.l s.c V (h2.step hb) (h4.step hb)) e2))));have HB:=Xh3 Z0 i4 QQ;obtain ⟨k0,k1,k2,k3,k4,k5⟩:=Q9o hX;obtain ⟨l0,l1,l2,l3,l4,l5⟩:=Q9o hY;clear hX hY Z0 Y1 h1 h2 h3 h4 i4 QQ e1 e2;cases b1
 all_goals
  go_enter Tryz.func64,Tryz.ntmps64
  go_upto_region 1 with fail
  clear E1
  go_wp2_with (first
   |(go_at_call_of 33 (Value.agg #[.bool x.lo.neg,.int .i64 x.lo.exp,.slice p.a p.l p.c]);refine (HC.out W0 (Uc _ _)).2.2.1.mono ?_;rintro e w1 ⟨rfl,hb⟩;have H1:=Ua hb;have hq:=HC.out w1 hb;obtain ⟨k0,k1,k2,k3,k4,k5⟩:=Q9o hq.1;obtain ⟨l0,l1,l2,l3,l4,l5⟩:=Q9o hq.2.1;clear hq hb)
   |(refine (HC.out w1 H1.out).2.2.2.mono ?_;rintro e w2 ⟨rfl,hb⟩;have H2:=Ua (Below.next0 H1.out hb);clear hb))
  go_ret
 ·exact ⟨Q09.no ((Xo1 HB) (by trivial)) rfl,Below.next0 (Xo0 HB) H1.out⟩
 ·exact ⟨Q09.of ((Xe2 HB) (by trivial)) rfl,Below.next0 (Xo0 HB) H2.out⟩
theorem Qei (a b:OA) (n c m d:Nat) (B D:List IvV) (w:World) (h1:Q86 w a n c B) (h2:Q86 w b m d D):
 Calls Tryz.prog 32 #[.slice a n c,.slice b m d] w fun r w'=>Q09 (B=D) r/\Bw w w':=by
 have Q2:=h1.1;have x6:=h2.1;have R2:=Ul h1.2.1 h1.2.2.1;have Zm:=Ul h2.2.1 h2.2.2.1;have H:=Xh2 h1 h2;clear h1 h2
 by_cases ZT:n=m
 case neg=>
  have A8:¬(n:Int)=(m:Int):=by omega
  go_enter Tryz.func32,Tryz.ntmps32
  go_wp2_with fail
  go_ret;exact ⟨Q09.no (Qd8 Q2 x6 A8) rfl,Uc _ _⟩
 case pos=>
 subst ZT
 go_enter Tryz.func32,Tryz.ntmps32
 go_wp2_with fail
 go_loopw [5] (fun s15 wr=>∃i:Nat,s15=.int .i64 (i:Int)/\i<=n/\(∀j,j<i->B[j]?=D[j]?)/\Bw w wr) (fun iv _=>n-(intOf iv).toNat)
 case atStart=>exact ⟨0,rfl,Ut _,fun j hj=>absurd hj (Tk _),Uc _ _⟩
 case round=>
  obtain ⟨i,rfl,hi,hq,M0⟩:=hrel
  by_cases E0:i<n
  ·have F0:(i:Int)<(n:Int):=(by omega);obtain ⟨x,hx⟩:∃x,B[i]?=some x:=⟨_,Ub (by omega)⟩;obtain ⟨y,hy⟩:∃x,D[i]?=some x:=⟨_,Ub (by omega)⟩;obtain ⟨b1,o1,rfl,A0,pa,pl,pc,qa,ql,qc,hk,A5,o4⟩:=Qd9 ((Xo0 H).step M0) hx;obtain ⟨b2,o2,rfl,D0,ra,rl,rc,sa,sl,sc,hl,hn3,Qx⟩:=Qd9 ((Xe1 H).step M0) hy;obtain ⟨bb,Y2⟩:∃b,yesB (x=y)=b:=⟨_,rfl⟩;have HC:=Xh3 (fun (W:World) (hB:Bw wr W)=>And.intro (fun (j:Nat) v (h:wr.cell? ⟨b1,j,none⟩=some v)=>(hB.cell (p:=⟨b1,j,none⟩) A0).trans h) (And.intro (fun (j:Nat) v (h:wr.cell? ⟨b2,j,none⟩=some v)=>(hB.cell (p:=⟨b2,j,none⟩) D0).trans h) (yn1 (Qh7 x y ⟨pa,pl,pc⟩ ⟨qa,ql,qc⟩ ⟨ra,rl,rc⟩ ⟨sa,sl,sc⟩ W (A5.step hB) (o4.step hB) (hn3.step hB) (Qx.step hB)) Y2))) hk hl;have HS:=Xh5 M0 hq hx hy Y2;clear hk hl M0 A5 o4 hn3 Qx hx hy hq Y2
   go_upto_region 6 with fail
   refine Q06 (E:=Q8a) (fun _=>Uc _ _) (by kernel_rfl) (fun W=>Bw wr W) (fun _ _ h h'=>Below.next0 h h') (Q40 [.slice (some ⟨b1,o1,none⟩) n c,.int .i64 (i:Int),.pointer (some ⟨b1,o1+i*6,none⟩),.agg #[.bool x.lo.neg,.int .i64 x.lo.exp,.slice pa pl pc,.bool x.hi.neg,.int .i64 x.hi.exp,.slice qa ql qc],.slice (some ⟨b2,o2,none⟩) n d,.int .i64 (i:Int),.pointer (some ⟨b2,o2+i*6,none⟩),.agg #[.bool y.lo.neg,.int .i64 y.lo.exp,.slice ra rl rc,.bool y.hi.neg,.int .i64 y.hi.exp,.slice sa sl sc],.bool bb,.bool (!bb)] (Q1h [])) (Q0c (Q0h ((fun p hp=>by cases hp)))) (Q0w (by kernel_rfl)) (by kernel_rfl) (Q01 wr) ?_ ?_
   ·skip
    repeat' (first|exact Q8n|refine Q8m ?_ ?_)
    all_goals
     refine Q1u rfl fun A W hW G0 hd hd=>?_;simp[Q7q,Region.binds,Q1h] at hd;have e0:=Q0d G0 0 (by kernel_rfl) rfl;have e1:=Q0d G0 1 (by kernel_rfl) rfl;have e5:=Q0d G0 5 (by kernel_rfl) rfl;obtain ⟨hk,hl,G2⟩:=(Xo0 HC) W hW;obtain ⟨⟨k0,k1,k2,k3,k4,k5⟩,l0,l1,l2,l3,l4,l5⟩:=(Xe1 HC)
     first
     |(refine Q2x rfl rfl ?_;simp[go_sem,hd,e0,e1,e5,F0,hk _ _ k0,hk _ _ k1,hk _ _ k2,hk _ _ k3,hk _ _ k4,hk _ _ k5,hl _ _ l0,hl _ _ l1,hl _ _ l2,hl _ _ l3,hl _ _ l4,hl _ _ l5];done)
     |(refine Q29 rfl rfl ?_ G2;simp[go_sem,hd];done)
   intro vs W1 I1 K2;have HB:=Ua I1;have e9:vs 9=.bool (!bb):=(Q0f rfl).1 (K2 9 (by decide));simp only[Q0r,Act.put,Ur,Ux,Uv,e9];clear I1 K2 e9;cases bb
   ·go_wp2_with fail
    go_ret;exact ⟨Q09.no (Q6w (Xo2 HS) (Xo3 HS) fun e=>by have:=(Xe4 HS);rw[Q0b.2 e] at this;cases this) rfl,Below.next0 (Xo0 HS) HB.out⟩
   ·go_wp2_with fail
    have e:=Q0b.1 (Xe4 HS);exact ⟨⟨i+1,congrArg (Value.int .i64) (by omega),by omega,Q5g (Xo1 HS) (Xo2 HS) (by rw[e];exact (Xo3 HS)),Below.next0 (Xo0 HS) HB.out⟩,by simp only[intOf];omega⟩
  ·have F0:¬(i:Int)<(n:Int):=(by omega);have HS:=Xh2 M0 (Q5f Q2 x6 fun j hj=>hq j (by omega));clear M0 hq
   go_wp2_with fail
   go_ret;exact ⟨Q09.yes (Xe1 HS) rfl,(Xo0 HS)⟩
theorem Qe5 [LT ZK] (x y:Q33) (p q:Qgo) (w:World) (h1:Q2g w p x) (h2:Q2g w q y):
 Calls Tryz.prog 12 #[.agg (Q46 p x).toArray,.agg (Q46 q y).toArray] w fun r w'=>Q09 (x=y) r/\Bw w w':=by
 obtain ⟨⟨pfa,pfl,pfc⟩,⟨pba,pbl,pbc⟩,⟨pta,ptl,ptc⟩,⟨pma,pml,pmc⟩,⟨pea,pel,pec⟩⟩:=p;obtain ⟨⟨qfa,qfl,qfc⟩,⟨qba,qbl,qbc⟩,⟨qta,qtl,qtc⟩,⟨qma,qml,qmc⟩,⟨qea,qel,qec⟩⟩:=q;obtain ⟨F,B,⟨tn,te,ts⟩,⟨mn,me,ms⟩,⟨en,ee,es⟩,prec,order,budget⟩:=x;obtain ⟨G,D,⟨un,ue,us⟩,⟨nn,ne,ns⟩,⟨fn,fe,fs⟩,prec2,order2,budget2⟩:=y;simp only[Q46];obtain ⟨W0,E1⟩:∃W0,(w.alloc (.cells #[.slice pfa pfl pfc,.slice pba pbl pbc,.bool tn,.int .i64 te,.slice pta ptl ptc,.bool mn,.int .i64 me,.slice pma pml pmc,.bool en,.int .i64 ee,.slice pea pel pec,.int .i64 prec,.int .i64 order,.int .i64 budget] 28)).alloc (.cells #[.slice qfa qfl qfc,.slice qba qbl qbc,.bool un,.int .i64 ue,.slice qta qtl qtc,.bool nn,.int .i64 ne,.slice qma qml qmc,.bool fn,.int .i64 fe,.slice qea qel qec,.int .i64 prec2,.int .i64 order2,.int .i64 budget2] 28)=W0:=⟨_,rfl⟩;obtain ⟨hX,hY,Z0,Y1⟩:=Q7s [.slice pfa pfl pfc,.slice pba pbl pbc,.bool tn,.int .i64 te,.slice pta ptl ptc,.bool mn,.int .i64 me,.slice pma pml pmc,.bool en,.int .i64 ee,.slice pea pel pec,.int .i64 prec,.int .i64 order,.int .i64 budget] [.slice qfa qfl qfc,.slice qba qbl qbc,.bool un,.int .i64 ue,.slice qta qtl qtc,.bool nn,.int .i64 ne,.slice qma qml qmc,.bool fn,.int .i64 fe,.slice qea qel qec,.int .i64 prec2,.int .i64 order2,.int .i64 budget2] 28 E1;obtain ⟨b1,e1⟩:∃b,yesB (F=G)=b:=⟨_,rfl⟩;obtain ⟨b2,e2⟩:∃b,yesB (B=D)=b:=⟨_,rfl⟩;obtain ⟨b3,e3⟩:∃b,yesB ((⟨tn,te,ts⟩:Q39)=⟨un,ue,us⟩)=b:=⟨_,rfl⟩;obtain ⟨b4,e4⟩:∃b,yesB ((⟨mn,me,ms⟩:Q39)=⟨nn,ne,ns⟩)=b:=⟨_,rfl⟩;obtain ⟨b5,e5⟩:∃b,yesB ((⟨en,ee,es⟩:Q39)=⟨fn,fe,fs⟩)=b:=⟨_,rfl⟩;have HC:=Ua (fun V (hV:Bw W0 V)=>have hb:=Below.next0 Z0 hV;have g1:=h1.step hb;have g2:=h2.step hb;And.intro (hX.step hV (by omega)) (And.intro (hY.step hV (by omega)) (And.intro (yn1 (Qbi _ _ _ _ _ _ _ _ V g1.f g2.f) e1) (And.intro (yn1 (Qei _ _ _ _ _ _ _ _ V g1.b g2.b) e2) (And.intro (yn1 (Q2r _ _ _ _ _ _ _ _ V g1.t g2.t) e3) (And.intro (yn1 (Q2r _ _ _ _ _ _ _ _ V g1.m g2.m) e4) (yn1 (Q2r _ _ _ _ _ _ _ _ V g1.e g2.e) e5)))))));have HB:=Ua Z0;have HE:=Xh5 e1 e2 e3 e4 e5;obtain ⟨k0,k1,k2,k3,k4,k5,k6,k7,k8,k9,k10,k11,k12,k13⟩:=Q04 hX;obtain ⟨l0,l1,l2,l3,l4,l5,l6,l7,l8,l9,l10,l11,l12,l13⟩:=Q04 hY;have key:=Qip b1 b2 b3 b4 b5 (prec=prec2) (order=order2) (budget=budget2);clear hX hY Z0 Y1 h1 h2 e1 e2 e3 e4 e5;rcases key with rfl|⟨rfl,rfl⟩|⟨rfl,rfl,rfl⟩|⟨rfl,rfl,rfl,rfl⟩|⟨rfl,rfl,rfl,rfl,rfl⟩|⟨rfl,rfl,rfl,rfl,rfl,hx⟩|⟨rfl,rfl,rfl,rfl,rfl,rfl,hx⟩|⟨rfl,rfl,rfl,rfl,rfl,rfl,rfl,hx⟩|⟨rfl,rfl,rfl,rfl,rfl,rfl,rfl,rfl⟩
 all_goals
  try (have D9:(budget==budget2)=false:=by simpa using hx)
  go_enter Tryz.func12,Tryz.ntmps12
  go_upto_region 1 with fail
  clear E1
  go_wp2_with (first
   |(go_at_call 31;refine (HC.out W0 (Uc _ _)).2.2.1.mono ?_;rintro e w1 ⟨rfl,hb⟩;have H1:=Ua hb;have hq:=HC.out w1 H1.out;obtain ⟨k0,k1,k2,k3,k4,k5,k6,k7,k8,k9,k10,k11,k12,k13⟩:=Q04 hq.1;obtain ⟨l0,l1,l2,l3,l4,l5,l6,l7,l8,l9,l10,l11,l12,l13⟩:=Q04 hq.2.1;clear hq hb)
   |(go_at_call 32;refine (HC.out w1 H1.out).2.2.2.1.mono ?_;rintro e w2 ⟨rfl,hb⟩;have H2:=Ua (Below.next0 H1.out hb);have hq:=HC.out w2 H2.out;obtain ⟨k0,k1,k2,k3,k4,k5,k6,k7,k8,k9,k10,k11,k12,k13⟩:=Q04 hq.1;obtain ⟨l0,l1,l2,l3,l4,l5,l6,l7,l8,l9,l10,l11,l12,l13⟩:=Q04 hq.2.1;clear hq hb)
   |(go_at_call_of 33 (Value.agg #[.bool tn,.int .i64 te,.slice pta ptl ptc]);refine (HC.out w2 H2.out).2.2.2.2.1.mono ?_;rintro e w3 ⟨rfl,hb⟩;have H3:=Ua (Below.next0 H2.out hb);have hq:=HC.out w3 H3.out;obtain ⟨k0,k1,k2,k3,k4,k5,k6,k7,k8,k9,k10,k11,k12,k13⟩:=Q04 hq.1;obtain ⟨l0,l1,l2,l3,l4,l5,l6,l7,l8,l9,l10,l11,l12,l13⟩:=Q04 hq.2.1;clear hq hb)
   |(go_at_call_of 33 (Value.agg #[.bool mn,.int .i64 me,.slice pma pml pmc]);refine (HC.out w3 H3.out).2.2.2.2.2.1.mono ?_;rintro e w4 ⟨rfl,hb⟩;have H4:=Ua (Below.next0 H3.out hb);have hq:=HC.out w4 H4.out;obtain ⟨k0,k1,k2,k3,k4,k5,k6,k7,k8,k9,k10,k11,k12,k13⟩:=Q04 hq.1;obtain ⟨l0,l1,l2,l3,l4,l5,l6,l7,l8,l9,l10,l11,l12,l13⟩:=Q04 hq.2.1;clear hq hb)
   |(go_at_call_of 33 (Value.agg #[.bool en,.int .i64 ee,.slice pea pel pec]);refine (HC.out w4 H4.out).2.2.2.2.2.2.mono ?_;rintro e w5 ⟨rfl,hb⟩;have H5:=Ua (Below.next0 H4.out hb);have hq:=HC.out w5 H5.out;obtain ⟨k0,k1,k2,k3,k4,k5,k6,k7,k8,k9,k10,k11,k12,k13⟩:=Q04 hq.1;obtain ⟨l0,l1,l2,l3,l4,l5,l6,l7,l8,l9,l10,l11,l12,l13⟩:=Q04 hq.2.1;clear hq hb))
  go_ret
 ·exact ⟨Q09.no (fun e=>Q5e (Xo0 HE) (Q1x.1 e).1) rfl,Below.next0 HB.out H1.out⟩
 ·exact ⟨Q09.no (fun e=>Q5e (Xo1 HE) (Q1x.1 e).2.1) rfl,Below.next0 HB.out H2.out⟩
 ·exact ⟨Q09.no (fun e=>Q5e (Xo2 HE) (Q1x.1 e).2.2.1) rfl,Below.next0 HB.out H3.out⟩
 ·exact ⟨Q09.no (fun e=>Q5e (Xo3 HE) (Q1x.1 e).2.2.2.1) rfl,Below.next0 HB.out H4.out⟩
 ·exact ⟨Q09.no (fun e=>Q5e (Xe4 HE) (Q1x.1 e).2.2.2.2.1) rfl,Below.next0 HB.out H5.out⟩
 ·exact ⟨Q09.no (fun e=>hx (Q1x.1 e).2.2.2.2.2.1) rfl,Below.next0 HB.out H5.out⟩
 ·exact ⟨Q09.no (fun e=>hx (Q1x.1 e).2.2.2.2.2.2.1) rfl,Below.next0 HB.out H5.out⟩
 ·exact ⟨Q09.no (fun e=>hx (Q1x.1 e).2.2.2.2.2.2.2) rfl,Below.next0 HB.out H5.out⟩
 ·exact ⟨Q09.yes (Q1x.2 ⟨Q0b.1 (Xo0 HE),Q0b.1 (Xo1 HE),Q0b.1 (Xo2 HE),Q0b.1 (Xo3 HE),Q0b.1 (Xe4 HE),rfl,rfl,rfl⟩) rfl,Below.next0 HB.out H5.out⟩
open DecM
theorem Qtr {n:Bool} {v:Nat} {f:Int} {x y:Dyadic} (h:dy (sgn n v) f=x+ -y):Q3v (Qws n v) x y:=by
 have hx:x-y=dy (sgn n v) f:=by rw[h];grind
 have hy:y-x=dy (-(sgn n v)) f:=by rw[<-Qcb,h];grind
 unfold Q3v;rw[hx,hy,Q5a,Q5a];unfold Qws sgn
 by_cases h0:v=0
 ·subst h0;simp
 ·cases n <;> simp[h0] <;> omega
theorem Q4x (x y:Q39) (ax:OA) (lx cx:Nat) (ay:OA) (ly cy:Nat) (w:World) (h1:Q0i w ax lx cx x) (h2:Q0i w ay ly cy y) (i1:x.ok) (i2:y.ok):
 Calls Tryz.prog 26 #[.agg #[.bool x.neg,.int .i64 x.exp,.slice ax lx cx],.agg #[.bool y.neg,.int .i64 y.exp,.slice ay ly cy]] w fun e w'=>(∃s,e=.returned (.int .i64 s)/\Q3v s x.val y.val)/\Bw w w':=by
 obtain ⟨Y1,hX,hY,Z0⟩:=Q7d w (.bool x.neg) (.int .i64 x.exp) (.slice ax lx cx) (.bool y.neg) (.int .i64 y.exp) (.slice ay ly cy) 26 26;obtain ⟨W0,E1⟩:∃W0,(w.alloc (.cells #[.bool x.neg,.int .i64 x.exp,.slice ax lx cx] 26)).alloc (.cells #[.bool y.neg,.int .i64 y.exp,.slice ay ly cy] 26)=W0:=⟨_,rfl⟩;rw[E1] at Y1 hX hY Z0;have hrx:=fun W (hW:Bw W0 W)=>Q2f x.neg x.exp ax lx cx x.ws W (h1.lie.step (Below.next0 Z0 hW)) h1.lo h1.hi (Ul h1.lie.cap h1.lie.most);have hry:=fun W (hW:Bw W0 W)=>Q2f y.neg y.exp ay ly cy y.ws W (h2.lie.step (Below.next0 Z0 hW)) h2.lo h2.hi (Ul h2.lie.cap h2.lie.most);rw[UT (show Q0a x.neg x.exp x.ws from i1)] at hrx;rw[UT (show Q0a y.neg y.exp y.ws from i2)] at hry;have HQ:=Xh4 (fun W (hW:Bw W0 W)=>And.intro (hX.step hW (by omega)) (hY.step hW (by omega))) hrx hry Z0;have HW:=Xh4 h1 h2 i1 i2;obtain ⟨k0,k1,k2⟩:=hX.cc;clear Y1 hX hY Z0 hrx hry h1 h2 i1 i2
 go_enter Tryz.func26,Tryz.ntmps26
 go_upto_region 1 with fail
 clear E1
 go_upto_region 3 with (first
  |(go_at_call 25;refine ((Xo2 HQ) W1 H1.out).mono ?_;rintro r W2 ⟨rfl,D0⟩;have H2:=Ua (Below.next0 H1.out D0);clear D0)
  |(go_at_call 25;refine ((Xo1 HQ) W0 (Uc _ _)).mono ?_;rintro r W1 ⟨rfl,A0⟩
    have hq:=((Xo0 HQ) W1 A0).2;obtain ⟨l0,l1,l2⟩:=hq.cc;have H1:=Ua A0;clear A0 hq))
 have HC:=Ua (fun W (hW:Bw W2 W)=>(Xo0 HQ) W (Below.next0 H2.out hW));have HB:=Ua (fun W (hW:Bw W2 W)=>Below.next0 (Below.next0 (Xe3 HQ) H2.out) hW);refine Q06 (E:=Q8a) (fun w=>Uc _ w) (by kernel_rfl) (fun W=>Bw W2 W) (fun _ _ h h'=>Below.next0 h h') (Q40 [.agg #[.bool x.neg,.int .i64 x.exp,.slice ax lx cx],undef,.agg #[.bool y.neg,.int .i64 y.exp,.slice ay ly cy],undef,undef,undef] (Q1h [(1,fun u w=>Q9k w u x.val),(3,fun u w=>Q9k w u y.val),(4,fun u _=>∃s,u=.int .i64 s/\Q3v s x.val y.val),(5,fun u _=>∃s,u=.int .i64 s/\Q3v s x.val y.val)])) (Q0c (Q0h (Qyv (Q34 _) (Q34 _) (fun _ _ _ h _=>h) (fun _ _ _ h _=>h)))) (Q0w (by kernel_rfl)) (by kernel_rfl) (Q01 W2) ?_ ?_
 ·refine ⟨fun A W hW G0 C0=>?_,?_⟩
  ·have e2:=Q0d G0 2 (by kernel_rfl) rfl;have hq:=(HC.out W hW).1;obtain ⟨k0,k1,k2⟩:=hq.cc;refine Q07 rfl (Q2x rfl rfl ?_);simp[go_sem,e2,k0,k1,k2]
  refine ⟨fun A W hW G0 C0=>?_,?_⟩
  ·have e13:=Q12 C0 0 (by decide) rfl rfl rfl;refine Q07 rfl ?_;refine Q0z (f:=59) (args:= #[.agg #[.bool x.neg,.int .i64 x.exp,.slice ax lx cx]]) (by simp[go_sem,e13]) ((Qjo x.neg x.exp ax lx cx x.ws W ((Xo0 HW).lie.step (HB.out W hW)) (Xo2 HW)).mono ?_);rintro e w2' ⟨u',rfl,Jk,K3⟩;exact ⟨_,rfl,K3,(Q02 rfl).2 Jk⟩
  refine ⟨fun A W hW G0 C0=>?_,?_⟩
  ·have e3:=Q0d G0 3 (by kernel_rfl) rfl;have hq:=(HC.out W hW).2;obtain ⟨k0,k1,k2⟩:=hq.cc;refine Q07 rfl (Q2x rfl rfl ?_);simp[go_sem,e3,k0,k1,k2]
  refine ⟨fun A W hW G0 C0=>?_,?_⟩
  ·have e15:=Q12 C0 2 (by decide) rfl rfl rfl;refine Q07 rfl ?_;refine Q0z (f:=59) (args:= #[.agg #[.bool y.neg,.int .i64 y.exp,.slice ay ly cy]]) (by simp[go_sem,e15]) ((Qjo y.neg y.exp ay ly cy y.ws W ((Xo1 HW).lie.step (HB.out W hW)) (Xe3 HW)).mono ?_);rintro e w2' ⟨u',rfl,Jk,K3⟩;exact ⟨_,rfl,K3,(Q02 rfl).2 Jk⟩
  refine ⟨fun A W hW G0 C0=>?_,?_⟩
  ·obtain ⟨n7,a7,l7,c7,q7,v7,hu7,KW,hc7,hD7⟩:=(Q02 rfl).1 (C0 1 (by decide));obtain ⟨n8,a8,l8,c8,q8,v8,hu8,Zi,hc8,Za⟩:=(Q02 rfl).1 (C0 3 (by decide));have e14:=Q44 hu7;have e16:=Q44 hu8;refine Q07 rfl ?_;refine Q0z (f:=58) (args:= #[.agg #[.bool n7,.slice a7 l7 c7,.int .i64 q7],.agg #[.bool n8,.slice a8 l8 c8,.int .i64 q8]]) (by simp[go_sem,e14,e16]) ((Qjp n7 a7 l7 c7 q7 v7 n8 a8 l8 c8 q8 v8 W KW Zi hc7 hc8 69632 (by rw[hD7];exact Qmr (Q3n (Xo2 HW) (Xo0 HW).lie.low) (Uf _)) (by rw[Za];exact Qmr (Q3n (Xe3 HW) (Xo1 HW).lie.low) (Uf _)) (by decide)).mono ?_);rintro e w2' ⟨⟨n9,v9,f9,rfl,hc9,V9⟩,K3⟩;rw[hD7,Za] at V9;exact ⟨_,rfl,K3,(Q02 rfl).2 ⟨_,rfl,Qtr V9⟩⟩
  refine ⟨fun A W hW G0 C0=>?_,trivial⟩
  ·obtain ⟨s,hs,hS⟩:=(Q02 rfl).1 (C0 4 (by decide));have e17:=Q44 hs;refine Q07 rfl ?_;exact Qt6 (w':=W) (u:=.int .i64 s) (by simp[go_sem,e17]) (Uc _ _) ((Q02 rfl).2 ⟨s,rfl,hS⟩)
 intro vs W3 j6 K2;obtain ⟨s,v5,hS⟩:=(Q02 rfl).1 (K2 5 (by decide));simp only[Q0r,Act.put,Ur,Ux,Uv];rw[v5];have HE:=Xh2 hS (HB.out W3 j6);clear j6 K2 v5
 go_wp2_with fail
 go_ret;exact ⟨⟨_,rfl,(Xo0 HE)⟩,(Xe1 HE)⟩
theorem Qej (x:IvV) (a b:OA) (l c m d:Nat) (w:World) (h1:Q0i w a l c x.lo) (h2:Q0i w b m d x.hi):
 Calls Tryz.prog 57 #[.agg #[.bool x.lo.neg,.int .i64 x.lo.exp,.slice a l c,.bool x.hi.neg,.int .i64 x.hi.exp,.slice b m d]] w fun r w'=>Q09 x.ok r/\Bw w w':=by
 obtain ⟨⟨nx,ex,ls⟩,⟨ny,ey,ks⟩⟩:=x;obtain ⟨E3,U6,B7⟩:=h1;obtain ⟨R4,L9,S9⟩:=h2;simp only at E3 U6 B7 R4 L9 S9⊢;have C2:=Ul E3.cap E3.most;have A2:=Ul R4.cap R4.most;have hC:=Q3h.new w [.bool nx,.int .i64 ex,.slice a l c,.bool ny,.int .i64 ey,.slice b m d] 44;have Z0:Bw w (w.alloc (.cells #[.bool nx,.int .i64 ex,.slice a l c,.bool ny,.int .i64 ey,.slice b m d] 44)):=Ba;have E0:=Q0p w (.cells #[.bool nx,.int .i64 ex,.slice a l c,.bool ny,.int .i64 ey,.slice b m d] 44);obtain ⟨W0,E1⟩:∃W0,w.alloc (.cells #[.bool nx,.int .i64 ex,.slice a l c,.bool ny,.int .i64 ey,.slice b m d] 44)=W0:=⟨_,rfl⟩;rw[E1] at Z0 E0
 change Q3h (w.alloc (.cells #[.bool nx,.int .i64 ex,.slice a l c,.bool ny,.int .i64 ey,.slice b m d] 44)) _ _ at hC
 rw[E1] at hC;have HC:=Ua (fun W (hW:Bw W0 W)=>have hb:=Below.next0 Z0 hW;And.intro (hC.step hW E0) (And.intro (Q2f nx ex a l c ls W (E3.step hb) U6 B7 C2) (And.intro (Q2f ny ey b m d ks W (R4.step hb) L9 S9 A2) (fun i1 i2=>Q4x ⟨nx,ex,ls⟩ ⟨ny,ey,ks⟩ a l c b m d W ⟨E3.step hb,U6,B7⟩ ⟨R4.step hb,L9,S9⟩ i1 i2))));have HB:=Ua Z0;have k0:=hC 0 _ rfl;have k1:=hC 1 _ rfl;have k2:=hC 2 _ rfl;have k3:=hC 3 _ rfl;have k4:=hC 4 _ rfl;have k5:=hC 5 _ rfl;clear hC Z0 E0 E3 R4;obtain ⟨p1,K8⟩:∃p,decide (Q0a nx ex ls)=p:=⟨_,rfl⟩;obtain ⟨p2,Qr⟩:∃p,decide (Q0a ny ey ks)=p:=⟨_,rfl⟩;have HP:=Xh2 K8 Qr;clear K8 Qr;cases p1
 case false=>
  go_enter Tryz.func57,Tryz.ntmps57
  go_upto_region 1 with fail
  clear E1
  go_wp2_with (go_at_call 25;refine (HC.out W0 (Uc _ _)).2.1.mono ?_;rintro e w1 ⟨rfl,A0⟩;rw[(Xo0 HP)];have H1:=Ua A0;clear A0)
  go_ret;exact ⟨Q09.no (fun h=>Xam (Xo0 HP) h.1) rfl,Below.next0 HB.out H1.out⟩
 cases p2
 case false=>
  go_enter Tryz.func57,Tryz.ntmps57
  go_upto_region 1 with fail
  clear E1
  go_wp2_with (first
   |(go_at_call_of 25 (Value.agg #[.bool ny,.int .i64 ey,.slice b m d]);refine (HC.out w1 H1.out).2.2.1.mono ?_;rintro e w2 ⟨rfl,D0⟩;rw[(Xe1 HP)];have H2:=Ua (Below.next0 H1.out D0);clear D0)
   |(go_at_call_of 25 (Value.agg #[.bool nx,.int .i64 ex,.slice a l c]);refine (HC.out W0 (Uc _ _)).2.1.mono ?_;rintro e w1 ⟨rfl,A0⟩;rw[(Xo0 HP)];have H1:=Ua A0;have hq:=(HC.out w1 A0).1;have k0:=hq 0 _ rfl;have k1:=hq 1 _ rfl;have k2:=hq 2 _ rfl;have k3:=hq 3 _ rfl;have k4:=hq 4 _ rfl;have k5:=hq 5 _ rfl;clear hq A0))
  go_ret;exact ⟨Q09.no (fun h=>Xam (Xe1 HP) h.2.1) rfl,Below.next0 HB.out H2.out⟩
 have HI:=Xh2 (Tt (Xo0 HP)) (Tt (Xe1 HP))
 go_enter Tryz.func57,Tryz.ntmps57
 go_upto_region 1 with fail
 clear E1
 go_wp2_with (first
  |(go_at_call 26;refine ((HC.out w2 H2.out).2.2.2 (Xo0 HI) (Xe1 HI)).mono ?_;rintro e w3 ⟨⟨s,rfl,hs⟩,I0⟩;have H3:=Xh2 hs (Below.next0 H2.out I0);clear hs I0)
  |(go_at_call_of 25 (Value.agg #[.bool ny,.int .i64 ey,.slice b m d]);refine (HC.out w1 H1.out).2.2.1.mono ?_;rintro e w2 ⟨rfl,D0⟩;rw[(Xe1 HP)];have H2:=Ua (Below.next0 H1.out D0);have hq:=(HC.out w2 H2.out).1;have k0:=hq 0 _ rfl;have k1:=hq 1 _ rfl;have k2:=hq 2 _ rfl;have k3:=hq 3 _ rfl;have k4:=hq 4 _ rfl;have k5:=hq 5 _ rfl;clear hq D0)
  |(go_at_call_of 25 (Value.agg #[.bool nx,.int .i64 ex,.slice a l c]);refine (HC.out W0 (Uc _ _)).2.1.mono ?_;rintro e w1 ⟨rfl,A0⟩;rw[(Xo0 HP)];have H1:=Ua A0;have hq:=(HC.out w1 A0).1;have k0:=hq 0 _ rfl;have k1:=hq 1 _ rfl;have k2:=hq 2 _ rfl;have k3:=hq 3 _ rfl;have k4:=hq 4 _ rfl;have k5:=hq 5 _ rfl;clear hq A0))
 go_ret;refine ⟨Q09.of (b:=decide (s<=0)) ?_ rfl,Below.next0 HB.out (Xe1 H3)⟩;have hs:=(Xo0 H3).2;unfold IvV.ok Qec;rw[TG];refine ⟨fun h=>⟨(Xo0 HI),(Xe1 HI),?_⟩,fun h=>?_⟩
 ·cases hv:Q20 (Q1r ny ey ks-Q1r nx ex ls)
  ·exact hv
  ·have:=hs.2 hv;omega
 ·refine Int.not_lt.1 fun h0=>?_;have h3:=h.2.2;have h4:=hs.1 h0;unfold Q39.val at h3 h4;rw[h4] at h3;cases h3
theorem Qe6 (a:OA) (n c:Nat) (B:List IvV) (w:World) (h:Q86 w a n c B):
 Calls Tryz.prog 24 #[.slice a n c] w fun r w'=>Q09 (Qd7 B) r/\Bw w w':=by
 have Q2:=h.1;subst Q2;have R2:=Ul h.2.1 h.2.2.1;have HM:=Ua h;clear h
 go_enter Tryz.func24,Tryz.ntmps24
 go_wp2_with fail
 go_loopw [3] (fun iv wr=>∃i:Nat,iv=.int .i64 (i:Int)/\i<=B.length/\i<=4/\(∀j x,j<i->B[j]?=some x->x.ok)/\Bw w wr) (fun iv _=>5-(intOf iv).toNat)
 case atStart=>exact ⟨0,rfl,Ut _,Ut _,fun j m h=>absurd h (Tk _),Uc _ _⟩
 case round=>
  obtain ⟨i,rfl,hi,hi4,O1,hb⟩:=hrel
  by_cases E0:i<B.length
  ·have F0:(i:Int)<(B.length:Int):=by omega
   by_cases h4:i<4
   ·have h4':(i:Int)<4:=(by omega);obtain ⟨x,hm⟩:∃x,B[i]?=some x:=⟨_,Ub E0⟩;obtain ⟨b0,o0,rfl,Z0,R1⟩:∃b o,a=some ⟨b,o,none⟩/\b<wr.heap.size/\∀j x,B[j]?=some x->Quz wr b (o+j*6) x:=by
     rcases (HM.out.step hb).2.2.2 with h0|h0
     ·rw[h0] at E0;simp at E0
     ·exact h0
    obtain ⟨p,l,d,q,m,e,⟨y0,y1,y2,y3,y4,y5⟩,A5,o4⟩:=R1 i x hm;obtain ⟨r,hr,G2⟩:=yn (Qej x p q l d m e _ A5 o4);have HA:=Xh5 O1 hb hm hr G2;clear O1 hb hm R1 A5 o4 hr G2;cases r
    ·go_wp2_with (refine (Xe4 HA).mono ?_;rintro r w1 ⟨rfl,A0⟩;have O0:=Ua A0;clear A0)
     go_ret;exact ⟨Q09.no (fun h=>by have:=(Xo3 HA).2 (h.2.2 x (Ug (Xo2 HA)));cases this) rfl,Below.next0 (Xo1 HA) O0.out⟩
    ·go_wp2_with (refine (Xe4 HA).mono ?_;rintro r w1 ⟨rfl,A0⟩;have O0:=Ua A0;clear A0)
     refine ⟨⟨i+1,by simp,by omega,by omega,fun j z hj hx=>?_,Below.next0 (Xo1 HA) O0.out⟩,by simp only[intOf];omega⟩
     by_cases hji:j=i
     ·subst hji;have:=(Xo2 HA);rw[hx] at this;injection this with this;rw[this];exact (Xo3 HA).1 (by trivial)
     ·exact (Xo0 HA) j z (by omega) hx
   ·have h4':¬(i:Int)<4:=(by omega);have k1':(0:Int)<(B.length:Int):=(by omega);have k4':¬(B.length:Int)<=4:=(by omega);have HF:=Ua hb;clear hb O1
    go_wp2_with fail
    go_ret;exact ⟨Q09.no (fun h=>by have:=h.2.1;omega) rfl,HF.out⟩
  ·obtain rfl:i=B.length:=(by omega);have F0:¬((B.length:Int)<(B.length:Int)):=(by omega);have R0:∀x∈B,x.ok:=fun m hm=>by
    obtain ⟨j,hj⟩:=UQ.1 hm;exact O1 j m (Ui.1 hj).1 hj
   have HF:=Xh2 R0 hb;clear R0 hb O1;have k4':(B.length:Int)<=4:=by omega
   by_cases k1:1<=B.length
   ·have k1':(0:Int)<(B.length:Int):=by omega
    go_wp2_with fail
    go_ret;exact ⟨Q09.yes ⟨k1,hi4,(Xo0 HF)⟩ rfl,(Xe1 HF)⟩
   ·have k1':¬(0:Int)<(B.length:Int):=by omega
    go_wp2_with fail
    go_ret;exact ⟨Q09.no (fun h=>k1 h.1) rfl,(Xe1 HF)⟩
end Go.Proofs.YtidojbkhlenahaaGreatDoor
