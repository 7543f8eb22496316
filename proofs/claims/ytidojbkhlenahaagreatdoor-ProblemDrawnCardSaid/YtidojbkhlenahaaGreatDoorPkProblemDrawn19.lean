/- Part 19. No condition. -/
import Derived.KernelRfl
import Derived.Test.YtidojbkhlenahaaGreatDoorCards
import Derived.Test.YtidojbkhlenahaaGreatDoorTie
import Derived.ProofKit
import Derived.OpenShut
import Derived.Deep.DeepHandedRow
import Derived.Lib.LaidTab
import Derived.Stop.LaidErr
import Derived.Shelf.Vars
import Derived.Lay
import Derived.Deep.Matrix
import Derived.Test.YtidojbkhlenahaaGreatDoorPkProblemDrawn18
set_option maxRecDepth 100000
set_option maxHeartbeats 16000000
namespace Go.Proofs.YtidojbkhlenahaaGreatDoor
open Go.RowKit WordsM DecM
def stK:PrS:=⟨64,4,100,some 1,some (dy 1 (-2)),some (dy 1 (-20)),[(some 1,some 1)],none⟩
theorem Qrn:Qla sK (sK.length+1) 0 0 PrS.empty=.ok (65,stK):=by kernel_rfl
theorem Qkk [LT ZK] [Nonempty (PLift Zz)] (s:ByteArray) (w:World) (hsK:s.data.toList=sK) (hT:Q3r w):
 Calls Tryz.prog 16 #[.string s] w fun e w'=>∃p x,e=.returned (.tuple #[.agg (Q2e p x).toArray,.int .i64 0,.int .i64 0])/\Q2j w' p x/\x.prob=pK/\Q1h x/\Bw w w':=by
 have hs:s.size<=1000000:=by rw[Lib.size_eq,hsK];decide
 have hY:Qla s.data.toList (s.data.toList.length+1) 0 0 PrS.empty=.ok (65,stK):=by rw[hsK];exact Qrn
 have hpX:IsX (s.extract 65 s.size):=⟨by rw[Lib.extract_to_end s 65,hsK];rfl⟩;have HY:=Xh2 hY hpX;clear hY hpX hsK;obtain ⟨W0,M1,VC⟩:=Qd1 s w hs hT;have HT:=Ua VC;clear VC hT
 go_enter Tryz.func16,Tryz.ntmps16
 go_upto_region 2 with fail
 change Code.wp _ _ _ _ ((w.alloc (.cells zpL.toArray 28)).alloc (.cells (zpL++[Value.int .i64 (-1)]).toArray 75))
 rw[M1];clear M1;have QX:s.data.toList.length=s.size:=(Lib.size_eq s).symm
 go_upto_region 5 with (
  go_at_call 48
  (
   refine (Xo0 HT).mono ?_;rintro e W1 ⟨B,p,x,P3,S3,Kc,hm⟩;rw[(Xo0 HY)] at hm;obtain ⟨rfl,R0,ZQ,hq⟩:=hm;have O1:Blk W1 w.heap.size zpL:=(Xo2 HT).same (S3.block _ (by have:=(Xe4 HT);omega) (by omega));have C0:Bw w W1:=(Xo1 HT).trans (S3.below (by omega) (by have:=(Xe4 HT);omega));have H1:=Xh6 C0 P3 R0 ZQ Kc O1;have Yr:(65:Int)<=(s.size:Int):=(by omega);clear P3 S3 Kc C0 R0 ZQ O1 hq))
 clear QX;have HP:=Ua (Qwl (s.extract 65 s.size) W1 (Xe1 HY) ((Xo3 HT).step (Xo0 H1)))
 go_upto_region 6 with (go_at_call 49;refine HP.out.mono ?_;rintro e W2 ⟨g,c,ms,rfl,hF,hFt,hFr,hgn,D0⟩
                        have Y1:=(Xe5 H1).step D0 ((Xe5 H1).lt (v:=.slice none 0 0));obtain ⟨k0,k1,k2,k3,k4,k5,k6,k7,k8,k9,k10,k11,k12,k13⟩:=Q05 Y1.c;obtain ⟨f0,f1,f2,f3,f4,f5,f6,f7,f8,f9,f10,f11,f12,f13⟩:=Qkj Y1 (by decide);have P1:=(Xo1 H1).step D0;have ko:=P1.blk.c 14 _ rfl;have Vj:∀y,(some ⟨g,0,none⟩:OA)=some y->W1.heap.size<=y.block:=fun y hy=>by { injection hy with hy;subst hy;exact hgn }
                        have H2:=Xh7 Y1 (Below.next0 (Xo0 H1) D0) P1 hF hFt hFr Vj;clear Y1 D0 P1 hF hFt hFr hgn Vj)
 have hxo:x.over= -1:=(Xo2 H1).over;have R9:=Qu5 (Xo2 H1) (Xo3 H1) rfl [ms];rw[show Q0x [ms]=[pX] from congrArg (fun z=>[z]) (Xo4 H2)] at R9;have HPR:=Xh2 (show _=pK from R9) (Qy9 (Xo2 H1) (Xo3 H1) rfl [ms]);clear R9;rw[hxo] at ko;have P1:=(Xo2 H2);have q0:=P1.blk.c 0 _ rfl;have g0:=P1.blk.f 0 (by simp[rpL]);have hRne:w.heap.size≠w.heap.size+1:=by omega
 have hO3:=Qdc.set P1.blk 0 (.slice (some ⟨g,0,none⟩) 1 c);have G8:=P1.blk.set (i:=0) (by simp[rpL]) (.slice (some ⟨g,0,none⟩) 1 c);have Jf:Blk (W2.setCell ⟨w.heap.size+1,0,none⟩ (.slice (some ⟨g,0,none⟩) 1 c)) w.heap.size zpL:=(Xo0 H2).far (by omega) _;have M0:Bw w (W2.setCell ⟨w.heap.size+1,0,none⟩ (.slice (some ⟨g,0,none⟩) 1 c)):=(Xo1 H2).setCell (p:=⟨w.heap.size+1,0,none⟩) (by show w.heap.size<=w.heap.size+1;omega) _;have hPI:Q2j (W2.setCell ⟨w.heap.size+1,0,none⟩ (.slice (some ⟨g,0,none⟩) 1 c)) ⟨⟨some ⟨g,0,none⟩,1,c⟩,p.b,p.t,p.m,p.e⟩ ⟨[ms],x.box,x.til,x.most,x.least,x.prec,x.order,x.budget⟩:=
  ⟨(Xo3 H2).only hO3 (Qej p x) (fun y hy=>by have h1:=(Xe6 H2) y hy;have h2:=(Xo1 H1).blk.lt;omega),(P1.box.only hO3 (Qej p x) (Xo4 H1)).boxIn,P1.t.only hO3 (Qej p x),P1.m.only hO3 (Qej p x),P1.e.only hO3 (Qej p x)⟩
 have hbx3:=P1.box.only hO3 (Qej p x) (Xo4 H1);clear P1 hO3
 go_upto_region 13 with fail
 have HRP:=Ua ((Qri hPI (Xo5 H2) (Xe1 HPR)).2 (by rw[(Xo0 HPR)];exact Qu6));obtain ⟨W3,E9⟩:∃W3,W2.setCell ⟨w.heap.size+1,0,none⟩ (.slice (some ⟨g,0,none⟩) 1 c)=W3:=⟨_,rfl⟩;rw[E9] at Jf M0 hPI G8 hbx3⊢;have hRt:=Q34 ⟨⟨some ⟨g,0,none⟩,1,c⟩,p.b,p.t,p.m,p.e⟩ ⟨[ms],x.box,x.til,x.most,x.least,x.prec,x.order,x.budget⟩ W3 hPI;simp only[Q2e] at hRt;have y7:Q2x W3 (w.heap.size+1) [.slice (some ⟨g,0,none⟩) 1 c,.slice p.b.a p.b.l p.b.c,.bool x.til.neg,.int .i64 x.til.exp,.slice p.t.a p.t.l p.t.c,.bool x.most.neg,.int .i64 x.most.exp,.slice p.m.a p.m.l p.m.c,.bool x.least.neg,.int .i64 x.least.exp,.slice p.e.a p.e.l p.e.c,.int .i64 x.prec,.int .i64 x.order,.int .i64 x.budget,.int .i64 x.over]:=G8.c;have r0:=y7 0 _ rfl;have r1:=y7 1 _ rfl;have r2:=y7 2 _ rfl;have r3:=y7 3 _ rfl;have r4:=y7 4 _ rfl;have r5:=y7 5 _ rfl;have r6:=y7 6 _ rfl;have r7:=y7 7 _ rfl;have r8:=y7 8 _ rfl;have r9:=y7 9 _ rfl;have r10:=y7 10 _ rfl;have r11:=y7 11 _ rfl;have r12:=y7 12 _ rfl;have r13:=y7 13 _ rfl;have Q7:w.heap.size+1<W3.heap.size:=G8.lt;have H3:=Xh7 Jf M0 hPI hRt y7 Q7 hbx3;clear Jf M0 hPI G8 y7 hRt E9 Q7 hbx3 k0 k1 k2 k3 k4 k5 k6 k7 k8 k9 k10 k11 k12 k13 ko q0 g0 f0 f1 f2 f3 f4 f5 f6 f7 f8 f9 f10 f11 f12 f13
 go_upto_region 15 with (go_at_call 9;refine (Xo3 H3).mono ?_;rintro e W4 ⟨⟨b,rfl,hb⟩,Y2⟩;obtain rfl:b=true:=hb.2 HRP.out
                         have YJ:=(Xo0 H3).step Y2 ((Xo0 H3).lt (v:=.slice none 0 0));obtain ⟨k0,k1,k2,k3,k4,k5,k6,k7,k8,k9,k10,k11,k12,k13⟩:=Q05 YJ.c;obtain ⟨f0,f1,f2,f3,f4,f5,f6,f7,f8,f9,f10,f11,f12,f13⟩:=Qkj YJ (by decide);have XF:=(Xo4 H3).step Y2 (Xo5 H3);have r0:=XF 0 _ rfl;have r1:=XF 1 _ rfl;have r2:=XF 2 _ rfl;have r3:=XF 3 _ rfl;have r4:=XF 4 _ rfl;have r5:=XF 5 _ rfl;have r6:=XF 6 _ rfl;have r7:=XF 7 _ rfl;have r8:=XF 8 _ rfl;have r9:=XF 9 _ rfl;have r10:=XF 10 _ rfl;have r11:=XF 11 _ rfl;have r12:=XF 12 _ rfl;have r13:=XF 13 _ rfl;have H4:=Xh4 YJ (Below.next0 (Xo1 H3) Y2) ((Xo2 H3).step Y2) ((Xe6 H3).step Y2);clear YJ XF hb Y2)
 go_wp2_with fail
 obtain ⟨V,WP,hO,hz9,N3⟩:=Qd0 (.slice (some ⟨g,0,none⟩) 1 c) (.slice p.b.a p.b.l p.b.c) (.bool x.til.neg) (.int .i64 x.til.exp) (.slice p.t.a p.t.l p.t.c) (.bool x.most.neg) (.int .i64 x.most.exp) (.slice p.m.a p.m.l p.m.c) (.bool x.least.neg) (.int .i64 x.least.exp) (.slice p.e.a p.e.l p.e.c) (.int .i64 x.prec) (.int .i64 x.order) (.int .i64 x.budget) (Xo0 H4) (Xo1 H4) (Ue _);have VX:∀y,(some ⟨g,0,none⟩:OA)=some y->y.block≠w.heap.size:=fun y hy=>by have h1:=(Xe6 H2) y hy;have h2:=(Xo1 H1).blk.lt;omega
 have hp:=(Xo2 H4);have hP9:=And.intro (hp.f.only hO Q7q VX) (And.intro ((Xe3 H4).only hO Q7q (by have:=(Xo4 H1);omega)).boxIn (And.intro (hp.t.only hO Q7q) (And.intro (hp.m.only hO Q7q) (hp.e.only hO Q7q))));unfold Qfu at WP;subst WP;obtain ⟨c0,c1,c2,c3,c4,c5,c6,c7,c8,c9,c10,c11,c12,c13⟩:=Q05 hz9.c;exact ⟨rfl,.tuple #[.agg (Q2e ⟨⟨some ⟨g,0,none⟩,1,c⟩,p.b,p.t,p.m,p.e⟩ ⟨[ms],x.box,x.til,x.most,x.least,x.prec,x.order,x.budget⟩).toArray,.int .i64 0,.int .i64 0],by simp[results,go_sem,Q2e,c0,c1,c2,c3,c4,c5,c6,c7,c8,c9,c10,c11,c12,c13],_,_,rfl,⟨hP9.1,hP9.2.1,hP9.2.2.1,hP9.2.2.2.1,hP9.2.2.2.2⟩,(Xo0 HPR),HRP.out,N3⟩
structure Qud (w:World):Prop where
 tab:Lib.TabIs Tryz.prog w "internal/strconv.uint64pow10" .u64 Lib.pow10Tab
 tz:Q3r w
 big:1<w.heap.size
theorem Qyh:Tryz.prog.globalNamed "internal/strconv.uint64pow10" =some 1:=by kernel_rfl
theorem Qud.below {w w':World} (h:Qud w) (hb:Bw w w'):Qud w':=⟨var?_below hb Qyh h.big h.tab,h.tz.step hb,Uc h.big hb.size⟩
theorem Qud.pow {w:World} (h:Qud w):Qax w:=fun _ hb=>(h.below hb).tab
theorem Qyi:sv (Qmn xK.prob)=.string ⟨(([112,114,101,99,32,54,52,10,111,114,100,101,114,32,52,10,98,117,100,103,101,116,32,49,48,48,10,117,110,116,105,108,32,49,10,109,111]:LU).append [115,116,32,49,112,45,50,10,108,101,97,115,116,32,49,112,45,50,48,10,98,111,120,32,49,32,49,10,120,49,39,32,61,32,120,49,10]).toArray⟩:=by rw[Qrj,Qwh];rfl
theorem Qyj (p:Qfg):(Q2e p xK)=[.slice p.f.a p.f.l p.f.c,.slice p.b.a p.b.l p.b.c,.bool false,.int .i64 0,.slice p.t.a p.t.l p.t.c,.bool false,.int .i64 (-2),.slice p.m.a p.m.l p.m.c,.bool false,.int .i64 (-20),.slice p.e.a p.e.l p.e.c,.int .i64 64,.int .i64 4,.int .i64 100]:=rfl
theorem Qwm:Qla sB (sB.length+1) 0 0 PrS.empty=.error (8,5):=by rfl
theorem Qro [LT ZK] [Nonempty (PLift Zz)] (w:World) (hL:Qud w):
 Calls Tryz.prog 7 #[] w fun e w'=>e=.returned (.bool true)/\Bw w w':=by
 have F9:=Qkk ⟨#[112,114,101,99,32,54,52,10,111,114,100,101,114,32,52,10,98,117,100,103,101,116,32,49,48,48,10,117,110,116,105,108,32,49,10,109,111,115,116,32,49,112,45,50,10,108,101,97,115,116,32,49,112,45,50,48,10,98,111,120,32,49,32,49,10,120,49,39,32,61,32,120,49,10]⟩ w rfl hL.tz;have JS:=fun W (hb:Bw w W)=>Qfv ⟨#[112,114,101,99,32,54,52,10,111,114,100,101,114,32,48,10]⟩ W (by decide) (hL.below hb).tz 8 5 Qwm;have H:=Xh3 F9 JS hL;clear F9 JS hL
 go_enter Tryz.func7,Tryz.ntmps7
 go_upto_region 3 with (go_at_call 16;refine (Xo0 H).mono ?_;rintro r w1 ⟨⟨⟨fa,fl,fc⟩,⟨ba,bl,bc⟩,⟨ta,tl,tc⟩,⟨ma,ml,mc⟩,⟨ea,el,ec⟩⟩,x,rfl,S9,R9,hR,C0⟩
                        obtain rfl:x=xK:=Qu8 (Qrh S9 hR.field (Qz2 hR)) Qwj (R9.trans Qrj.symm);obtain rfl:1=fl:=S9.f.1;obtain rfl:1=bl:=S9.b.1;have H1:=Xh3 C0 S9 hR;rw[Qyj];simp only;clear C0 S9 R9 hR)
 obtain ⟨W1,R1⟩:∃W1,w1.alloc (.cells #[.slice fa 1 fc,.slice ba 1 bc,.bool false,.int .i64 0,.slice ta tl tc,.bool false,.int .i64 (-2),.slice ma ml mc,.bool false,.int .i64 (-20),.slice ea el ec,.int .i64 64,.int .i64 4,.int .i64 100] 28)=W1:=⟨_,rfl⟩;have hC:=Q2x.new w1 [.slice fa 1 fc,.slice ba 1 bc,.bool false,.int .i64 0,.slice ta tl tc,.bool false,.int .i64 (-2),.slice ma ml mc,.bool false,.int .i64 (-20),.slice ea el ec,.int .i64 64,.int .i64 4,.int .i64 100] 28
 change Q2x (w1.alloc (.cells #[.slice fa 1 fc,.slice ba 1 bc,.bool false,.int .i64 0,.slice ta tl tc,.bool false,.int .i64 (-2),.slice ma ml mc,.bool false,.int .i64 (-20),.slice ea el ec,.int .i64 64,.int .i64 4,.int .i64 100] 28)) _ _ at hC
 rw[R1] at hC⊢;have F0:w1.heap.size<W1.heap.size:=by rw[<-R1];exact Q0o _ _
 have hb:Bw w1 W1:=by rw[<-R1];exact Ba
 have Y0:=Below.next0 (Xo0 H1) hb;have S9:∀W,Bw W1 W->Q2j W ⟨⟨fa,1,fc⟩,⟨ba,1,bc⟩,⟨ta,tl,tc⟩,⟨ma,ml,mc⟩,⟨ea,el,ec⟩⟩ xK:=fun W hW=>((Xo1 H1).step hb).step hW;have H2:=Xh4 Y0 (fun W (hW:Bw W1 W)=>hC.step hW F0) S9 F0;clear R1 hC F0 hb Y0 S9
 go_upto_region 4 with (go_at_call 16;refine ((Xo1 H) W1 (Xo0 H2)).mono ?_;rintro r w2 ⟨D0,rfl⟩
                        simp only[zpL];have H3:=Ua D0;clear D0)
 have X3:Bw w2 (w2.alloc (.cells #[.slice none 0 0,.slice none 0 0,.bool false,.int .i64 0,.slice none 0 0,.bool false,.int .i64 0,.slice none 0 0,.bool false,.int .i64 0,.slice none 0 0,.int .i64 0,.int .i64 0,.int .i64 0] 28)):=Ba;obtain ⟨W2,i5⟩:∃W2,w2.alloc (.cells #[.slice none 0 0,.slice none 0 0,.bool false,.int .i64 0,.slice none 0 0,.bool false,.int .i64 0,.slice none 0 0,.bool false,.int .i64 0,.slice none 0 0,.int .i64 0,.int .i64 0,.int .i64 0] 28)=W2:=⟨_,rfl⟩;rw[i5] at X3⊢;clear i5;have JR:=Below.next0 H3.out X3;obtain ⟨k0,k1,k2,k3,k4,k5,k6,k7,k8,k9,k10,k11,k12,k13⟩:=Q05 ((Xo1 H2) W2 JR);have HR:=Xh2 JR (fun W (hW:Bw W1 W)=>And.intro (Q34 ⟨⟨fa,1,fc⟩,⟨ba,1,bc⟩,⟨ta,tl,tc⟩,⟨ma,ml,mc⟩,⟨ea,el,ec⟩⟩ xK W ((Xo2 H2) W hW)) (And.intro (Qar ⟨⟨fa,1,fc⟩,⟨ba,1,bc⟩,⟨ta,tl,tc⟩,⟨ma,ml,mc⟩,⟨ea,el,ec⟩⟩ xK W ((Xo2 H2) W hW) (Xe2 H1) ((Xe2 H).below (Below.next0 (Xo0 H2) hW)).tz ((Xe2 H).below (Below.next0 (Xo0 H2) hW)).pow) (Qhc xK ⟨⟨fa,1,fc⟩,⟨ba,1,bc⟩,⟨ta,tl,tc⟩,⟨ma,ml,mc⟩,⟨ea,el,ec⟩⟩ ⟨⟨fa,1,fc⟩,⟨ba,1,bc⟩,⟨ta,tl,tc⟩,⟨ma,ml,mc⟩,⟨ea,el,ec⟩⟩ W ((Xo2 H2) W hW) ((Xo2 H2) W hW))));clear X3 JR
 go_wp2_with (first
  |(go_at_call 11;refine ((Xe1 HR) w4 H5.out).2.2.mono ?_;rintro r w5 ⟨rfl,P0⟩;have H6:=Ua (Below.next0 H5.out P0);clear P0)
  |(go_at_call 13;refine ((Xe1 HR) w3 H4.out).2.1.mono ?_;rintro r w4 ⟨rfl,Y2⟩;rw[Qyi]
    have H5:=Ua (Below.next0 H4.out Y2);obtain ⟨k0,k1,k2,k3,k4,k5,k6,k7,k8,k9,k10,k11,k12,k13⟩:=Q05 ((Xo1 H2) w4 H5.out);clear Y2)
  |(go_at_call 9;refine ((Xe1 HR) W2 (Xo0 HR)).1.mono ?_;rintro r w3 ⟨⟨b,rfl,hbR⟩,M0⟩
    obtain rfl:b=true:=hbR.2 (Xe2 H1);have H4:=Ua (Below.next0 (Xo0 HR) M0);obtain ⟨k0,k1,k2,k3,k4,k5,k6,k7,k8,k9,k10,k11,k12,k13⟩:=Q05 ((Xo1 H2) w3 H4.out);clear M0 hbR))
 go_ret;exact ⟨rfl,Below.next0 (Xo0 H2) H6.out⟩
end Go.Proofs.YtidojbkhlenahaaGreatDoor
namespace Go.Proofs.YtidojbkhlenahaaGreatDoor
open Go.RowKit
theorem Qem {w:World} {p:Addr} {v:Value} (h:w.cell? p=some v):p.block<w.heap.size:=by
 refine TR fun x5=>?_;unfold World.cell? at h;rw[Array.getElem?_eq_none x5] at h;simp at h
theorem Que {W:World} (h:laidMet Tryz.prog Rows.problemBackRow.laid W):Lib.TabIs Tryz.prog W "internal/strconv.uint64pow10" .u64 Lib.pow10Tab:=by
 have h1:=h.tail.tail;exact Lib.tabIs_of_head (rest:=_) (t:=249) (e:=83) (n:=20) Qyh (by kernel_rfl) (by kernel_rfl) (by kernel_rfl) (by kernel_rfl) (by kernel_rfl) h1
theorem Quf {W:World} (h:laidMet Tryz.prog Rows.problemBackRow.laid W):Q3r W:=by
 have h1:=h.tail;have ht:Lib.TabIs Tryz.prog W "math/bits.deBruijn64tab" .u8 [0,1,56,2,57,49,28,3,61,58,42,50,38,29,17,4,62,47,59,36,45,43,51,22,53,39,33,30,24,18,12,5,63,55,48,27,60,41,37,16,46,35,44,21,52,32,23,11,54,26,40,15,34,20,31,10,25,14,19,9,13,8,7,6]:=
  Lib.tabIs_of_head (rest:=_) (g:=5) (t:=302) (e:=5) (n:=64) (by kernel_rfl) (by kernel_rfl) (by kernel_rfl) (by kernel_rfl) (by kernel_rfl) (by kernel_rfl) h1
 have hc:=fun i hi=>ht.cell (g:=5) (by kernel_rfl) i hi;refine ⟨Qem (hc 0 (by decide)),fun j hj=>?_⟩;have hj':j<64:=hj;rw[hc j hj'];have key:∀i:Fin 64,([0,1,56,2,57,49,28,3,61,58,42,50,38,29,17,4,62,47,59,36,45,43,51,22,53,39,33,30,24,18,12,5,63,55,48,27,60,41,37,16,46,35,44,21,52,32,23,11,54,26,40,15,34,20,31,10,25,14,19,9,13,8,7,6]:List Int).getD i.val 0=((Go.Lib.deBruijn64tab.getD i.val 0:Nat):Int):=by decide
 rw[key ⟨j,hj'⟩]
theorem Qwn {W:World} (h:laidMetH Tryz.prog Rows.problemBackRow.laid W) (_hs:W.ShapedOpen Tryz.prog):Qud W:=by
 rw[MakeChecks.laidMetH_plain _ _ _ (by kernel_rfl)] at h;have ht:=Que h;exact ⟨ht,Quf h,Qem (ht.cell (g:=1) (by kernel_rfl) 0 (by decide))⟩
section
variable {H:Type} {enc:TypeId × Value->H}
theorem Q9v {C:Checked} {os:Os} {f:FuncId} {fn:Func} {s:OpenSpec} {conds:List PathCond} {apart:Bool} {laid:List (String × DataW Unit)} (modest:Bool) (w0:World) (args:Array Value) (hos:w0.os=os)
 (Qg:(w0.forCall (fun _ _=>0) ⟨#[],args,[]⟩).Shaped C.prog) (X1:Input.okWideB C.prog (w0.forCall (fun _ _=>0) ⟨#[],args,[]⟩) f ⟨#[],args,[]⟩=true)
 (K0:s.preRow enc C.prog fn conds apart laid (w0.forCall (fun _ _=>0) ⟨#[],args,[]⟩).memory args):
 ∃(w:World) (tape:Tape) (i:Input),w.os=os/\(w.forCall tape i).Shaped C.prog/\i.vars=[]/\Input.okWide C.prog (w.forCall tape i) .any w.heap.size f i/\
  s.preRow enc C.prog fn conds apart laid (w.forCall tape i).memory i.args/\({ modest:=modest }:Assume).holds C.prog (lone (Frame.enter C.prog f i.args .normal) [] (w.forCall tape i)):=
 ⟨w0,fun _ _=>0,⟨#[],args,[]⟩,hos,Qg,(Input.okWide_of_okWideB (base:=0) X1).1,(Input.okWide_of_okWideB X1).2,K0,by
   simp only[Assume.holds];exact ⟨by simp,by simp,fun _=>Modest.zero,by simp,by simp⟩⟩
end
theorem own:ownKnob Tryz.prog.godebug=none:=by kernel_rfl
open Go.ChangeAt Go.ChangeShapes Go.WideShapes
theorem Qik {a:Int} (h:(Lit.int .u8 a).wf=true):∃n:Nat,a=(n:Int)/\n<256:=by
 have hr:0<=a/\a<=255:=by simpa[Lit.wf,IntKind.min,IntKind.max,IntKind.signed,IntKind.bits] using h
 exact ⟨a.toNat,by omega,by omega⟩
theorem Qrp {H:Type} {enc:TypeId × Value->H} {W:World} {sp:Nat->Bool} {hd:Bool} {a:OA} {len cap:Nat} {d:DataW H} {p:List MemPlace}
 (h:DataW.Trod enc Tryz.prog W 0 sp hd 24 (.slice a len cap) d p):
 ∃ls:LN,ls.length=len/\len<=9223372036854775807/\RdU W W.heap.size a ls/\∀x∈ls,x<18446744073709551616:=by
 obtain ⟨fuel,hf⟩:=h;rcases open_ints Tryz.underlying24 Tryz.underlying83 (by kernel_rfl) hf with ⟨B7,_⟩|⟨x,l,c,zs,B7,_,hl,hm,hz,_,J0,ZI⟩
 ·simp[Value.cells] at B7;obtain ⟨rfl,rfl,rfl⟩:=B7;exact ⟨[],rfl,by omega,.inl rfl,by simp⟩
 ·simp[Value.cells] at B7;obtain ⟨rfl,rfl,rfl⟩:=B7;unfold maxLen at hm;have j8:len<=zs.length:=by rw[hz];split <;> omega
  have S9:∀(i:Nat) z,zs[i]?=some z->0<=z/\z<=18446744073709551615:=by
   intro i z hi;have:=ZI z (Ug hi);simpa[Lit.wf,IntKind.min,IntKind.max,IntKind.signed,IntKind.bits] using this
  refine ⟨(zs.take len).map fun n=>n.toNat,by simp;omega,by omega,?_,?_⟩
  ·by_cases h0:len=0
   ·exact .inl (by simp[h0])
   ·obtain ⟨b,o,spot⟩:=x;have h1:=J0 0 (by omega);have hspot:spot=none:=(by simpa[Addr.add] using World.cell?_spot h1);subst hspot;have hb:b<W.heap.size:=by
     have:=Uz h1;rwa[show (Addr.add ⟨b,o,none⟩ 0).block=b by simp[Addr.add]] at this
    refine .inr ⟨b,o,rfl,hb,fun j y hy=>?_⟩;rw[UI] at hy;cases Y1:(zs.take len)[j]? with
    |none=>rw[Y1] at hy;cases hy
    |some z=>
     rw[Y1] at hy;simp only[UG,Un] at hy;subst hy;rw[Ty] at Y1
     split at Y1
     ·next hj=>
      obtain ⟨D6,P3⟩:=S9 j z Y1;have hjl:j<zs.length:=(Uh.1 Y1).1;have h2:=J0 j hjl;rw[show (⟨b,o,none⟩:Addr).add j=⟨b,o+j,none⟩ by unfold Addr.add;split <;> simp_all] at h2;have e:zs.getD j 0=z:=(by rw[Tc,Y1];rfl);rw[h2,e];unfold uv
      congr 2;omega
     ·cases Y1
  ·intro x hx;obtain ⟨z,Jf,rfl⟩:=TE.1 hx;obtain ⟨i,hi⟩:=US.1 (Td Jf);have:=S9 i z hi;omega
end Go.Proofs.YtidojbkhlenahaaGreatDoor
namespace Go.Proofs.YtidojbkhlenahaaGreatDoor
open Go.RowKit WordsM
theorem Q2v (x y:Q2u) (a b:OA) (l c m d:Nat) (w:World) (h1:Q0f w a l c x) (h2:Q0f w b m d y):
 Calls Tryz.prog 33 #[.agg #[.bool x.neg,.int .i64 x.exp,.slice a l c],.agg #[.bool y.neg,.int .i64 y.exp,.slice b m d]] w fun r w'=>Q0b (x=y) r/\Bw w w':=
 (Qc3 x.neg x.exp a l c x.ws y.neg y.exp b m d y.ws w h1.lie h2.lie (Uj h1.lie.cap h1.lie.most)).mono fun r w' ⟨h,hb⟩=>⟨Q0b.of Qlh h,hb⟩
--POLYS--
theorem Qrq {f:FuncId} {args:Array Value} {w:World} {u z:Int} (h:Calls Tryz.prog f args w fun r w'=>r=.returned (.int .i64 u)/\∃k,w'=w.drewN k) (hz:u=z):Calls Tryz.prog f args w fun r w'=>r=.returned (.int .i64 z)/\Bw w w':=by
 subst hz;refine h.mono ?_;rintro r w2 ⟨rfl,k,rfl⟩;exact ⟨rfl,Q19 (Ud _ _) _⟩
theorem Qd3 [LT ZK] (a b:OA) (n c m d:Nat) (ms ks:List Q01) (w:World) (h1:Q0k w a n c ms) (h2:Q0k w b m d ks):
 Calls Tryz.prog 63 #[.slice a n c,.slice b m d] w fun r w'=>Q0b (ms=ks) r/\Bw w w':=by
 have P2:=h1.1;have A8:=h2.1;have E3:=Uj h1.2.1 h1.2.2.1;have Xh:=Uj h2.2.1 h2.2.2.1;have H:=Xh2 h1 h2;clear h1 h2
 by_cases hnm:n=m
 case neg=>
  have Y8:¬(n:Int)=(m:Int):=by omega
  go_enter Tryz.func63,Tryz.ntmps63
  go_wp2_with fail
  go_ret;exact ⟨Q0b.no (Qcf P2 A8 Y8) rfl,Ud _ _⟩
 case pos=>
 subst hnm
 go_enter Tryz.func63,Tryz.ntmps63
 go_wp2_with fail
 go_loopw [5] (fun s5 wr=>∃i:Nat,s5=.int .i64 (i:Int)/\i<=n/\(∀j,j<i->ms[j]?=ks[j]?)/\Bw w wr) (fun iv _=>n-(intOf iv).toNat)
 case atStart=>exact ⟨0,rfl,Uv _,fun j hj=>absurd hj (Tf _),Ud _ _⟩
 case round=>
  obtain ⟨i,rfl,hi,hq,Z0⟩:=hrel
  by_cases F0:i<n
  ·have G0:(i:Int)<(n:Int):=(by omega);obtain ⟨x,hx⟩:∃x,ms[i]?=some x:=⟨_,Ub (by omega)⟩;obtain ⟨y,hy⟩:∃x,ks[i]?=some x:=⟨_,Ub (by omega)⟩;obtain ⟨b1,o1,rfl,C0,Zq⟩:=Qb5 ((Xo0 H).step Z0) hx;obtain ⟨b2,o2,rfl,D0,Zu⟩:=Qb5 ((Xe1 H).step Z0) hy;obtain ⟨aw,lw,cw,ae,le,ce,⟨k0,k1,k2,k3⟩,hw,he⟩:=Qb4 Zq;obtain ⟨bw,lv,cv,be,lf,cf,⟨l0,l1,l2,l3⟩,Z4,Q5⟩:=Qb4 Zu;obtain ⟨bb,C3⟩:∃b,yesB (x.num=y.num)=b:=⟨_,rfl⟩;have x5:=he.len;have hlf:=Q5.len;have hSm:=fun (W:World) (hB:Bw wr W)=>yn1 (Q2v x.num y.num aw bw lw cw lv cv W (hw.step hB) (Z4.step hB)) C3;simp only[Q01.num] at hSm;have Wr:=fun (W:World) (hB:Bw wr W)=>And.intro (And.intro ((hB.cell (p:=⟨b1,o1+i*4,none⟩) C0).trans k0) (And.intro ((hB.cell (p:=⟨b1,o1+i*4+1,none⟩) C0).trans k1) (And.intro ((hB.cell (p:=⟨b1,o1+i*4+2,none⟩) C0).trans k2) ((hB.cell (p:=⟨b1,o1+i*4+3,none⟩) C0).trans k3)))) (And.intro ((hB.cell (p:=⟨b2,o2+i*4,none⟩) D0).trans l0) (And.intro ((hB.cell (p:=⟨b2,o2+i*4+1,none⟩) D0).trans l1) (And.intro ((hB.cell (p:=⟨b2,o2+i*4+2,none⟩) D0).trans l2) ((hB.cell (p:=⟨b2,o2+i*4+3,none⟩) D0).trans l3))));have HS:=Xh4 Z0 hq hx hy
   go_upto_region 6 with fail
   cases bb
   ·have HC:=Ua (fun W hW=>And.intro (Wr W hW).1 (And.intro (Wr W hW).2 (hSm W hW)));have HN:=Ua (fun e:x=y=>Q56 C3 (Q9h.1 e).1);clear Wr hSm Z0 hx hy hq C3 x5 hlf k0 k1 k2 k3 l0 l1 l2 l3 hw Z4 he Q5 Zq Zu;refine Q06 (E:=Q7l) (fun _=>Ud _ _) (by kernel_rfl) (fun W=>Bw wr W) (fun _ _ h h'=>Below.next0 h h') (Q3q [.slice (some ⟨b1,o1,none⟩) n c,.int .i64 (i:Int),.pointer (some ⟨b1,o1+i*4,none⟩),.pointer (some ⟨b1,o1+i*4,none⟩),.agg #[.bool x.neg,.int .i64 x.exp,.slice aw lw cw],.slice (some ⟨b2,o2,none⟩) n d,.int .i64 (i:Int),.pointer (some ⟨b2,o2+i*4,none⟩),.pointer (some ⟨b2,o2+i*4,none⟩),.agg #[.bool y.neg,.int .i64 y.exp,.slice bw lv cv],.bool false,.bool true,.bool true,undef,undef,undef,undef,undef,undef,undef,undef,undef,undef,undef,undef,undef,.bool true,.bool true,undef,undef,undef,undef,undef,undef,undef,undef,undef,undef,undef,undef,.bool true] (Q13 [])) (Q08 (Q0e ((fun p hp=>by cases hp)))) (Q15 (by kernel_rfl)) (by kernel_rfl) (Q04 wr) ?_ ?_
    ·skip
     repeat' (first|exact Q83|refine Q82 ?_ ?_)
     all_goals first
      |exact Qfc rfl rfl rfl
      |(refine Q1p rfl fun A W hW E0 hd hd=>?_
        simp[Q72,Region.binds,Q13] at hd;have e0:=Q07 E0 0 (by kernel_rfl) rfl;have e5:=Q07 E0 5 (by kernel_rfl) rfl;have e1:=Q07 E0 1 (by kernel_rfl) rfl;obtain ⟨k0,k1,k2,k3⟩:=(HC.out W hW).1;obtain ⟨l0,l1,l2,l3⟩:=(HC.out W hW).2.1
        first
        |(refine Q12 rfl rfl ?_;simp[go_sem,hd,e0,e5,e1,G0,k0,k1,k2,k3,l0,l1,l2,l3];done)
        |(refine Q2b rfl rfl ?_ ((HC.out W hW).2.2);simp[go_sem,hd];done))
    intro vs W1 R1 A3;have HB:=Ua R1;have e40:vs 40=.bool true:=(Q0j rfl).1 (A3 40 (by decide));simp only[Q0t,Act.put,Um,Ux,Ut,e40];clear R1 A3 e40
    go_wp2_with fail
    go_ret;exact ⟨Q0b.no (Q6s (Xo2 HS) (Xe3 HS) HN.out) rfl,Below.next0 (Xo0 HS) HB.out⟩
   by_cases Qn:le=lf
   case neg=>
    have hlf:¬(le:Int)=(lf:Int):=(by omega);have HC:=Ua (fun W hW=>And.intro (Wr W hW).1 (And.intro (Wr W hW).2 (hSm W hW)));have HN:=Ua (fun e:x=y=>Qn (by rw[<-he.len,<-Q5.len,e]));clear Wr hSm Z0 hx hy hq C3 x5 Qn k0 k1 k2 k3 l0 l1 l2 l3 hw Z4 he Q5 Zq Zu;refine Q06 (E:=Q7l) (fun _=>Ud _ _) (by kernel_rfl) (fun W=>Bw wr W) (fun _ _ h h'=>Below.next0 h h') (Q3q [.slice (some ⟨b1,o1,none⟩) n c,.int .i64 (i:Int),.pointer (some ⟨b1,o1+i*4,none⟩),.pointer (some ⟨b1,o1+i*4,none⟩),.agg #[.bool x.neg,.int .i64 x.exp,.slice aw lw cw],.slice (some ⟨b2,o2,none⟩) n d,.int .i64 (i:Int),.pointer (some ⟨b2,o2+i*4,none⟩),.pointer (some ⟨b2,o2+i*4,none⟩),.agg #[.bool y.neg,.int .i64 y.exp,.slice bw lv cv],.bool true,.bool false,.bool false,.slice (some ⟨b1,o1,none⟩) n c,.int .i64 (i:Int),.pointer (some ⟨b1,o1+i*4,none⟩),.pointer (some ⟨b1,o1+i*4+3,none⟩),.slice ae le ce,.int .i64 (le:Int),.slice (some ⟨b2,o2,none⟩) n d,.int .i64 (i:Int),.pointer (some ⟨b2,o2+i*4,none⟩),.pointer (some ⟨b2,o2+i*4+3,none⟩),.slice be lf cf,.int .i64 (lf:Int),.bool true,.bool true,.bool true,undef,undef,undef,undef,undef,undef,undef,undef,undef,undef,undef,undef,.bool true] (Q13 [])) (Q08 (Q0e ((fun p hp=>by cases hp)))) (Q15 (by kernel_rfl)) (by kernel_rfl) (Q04 wr) ?_ ?_
    ·skip
     repeat' (first|exact Q83|refine Q82 ?_ ?_)
     all_goals first
      |exact Qfc rfl rfl rfl
      |(refine Q1p rfl fun A W hW E0 hd hd=>?_
        simp[Q72,Region.binds,Q13] at hd;have e0:=Q07 E0 0 (by kernel_rfl) rfl;have e5:=Q07 E0 5 (by kernel_rfl) rfl;have e1:=Q07 E0 1 (by kernel_rfl) rfl;obtain ⟨k0,k1,k2,k3⟩:=(HC.out W hW).1;obtain ⟨l0,l1,l2,l3⟩:=(HC.out W hW).2.1
        first
        |(refine Q12 rfl rfl ?_;simp[go_sem,hd,e0,e5,e1,G0,k0,k1,k2,k3,l0,l1,l2,l3,hlf];done)
        |(refine Q2b rfl rfl ?_ ((HC.out W hW).2.2);simp[go_sem,hd];done))
    intro vs W1 R1 A3;have HB:=Ua R1;have e40:vs 40=.bool true:=(Q0j rfl).1 (A3 40 (by decide));simp only[Q0t,Act.put,Um,Ux,Ut,e40];clear R1 A3 e40
    go_wp2_with fail
    go_ret;exact ⟨Q0b.no (Q6s (Xo2 HS) (Xe3 HS) HN.out) rfl,Below.next0 (Xo0 HS) HB.out⟩
   case pos=>
   subst Qn;obtain ⟨z,hz⟩:∃z,Q2w x.es y.es=z:=⟨_,rfl⟩;obtain ⟨zb,hzb⟩:∃q,(!(z==0))=q:=⟨_,rfl⟩;have hzb3:(z != 0)=zb:=hzb;have Jt:zb=false↔x=y:=by
    rw[<-hzb,Q9h];have:=Q0c.1 C3;have h0:=Q6k x.es y.es;rw[hz] at h0;simp[this,h0]
   have HC:=Ua (fun (W:World) (hW:Bw wr W)=>And.intro (Wr W hW).1 (And.intro (Wr W hW).2 (And.intro (hSm W hW) (Qrq (Q5t ae le ce x.es be cf y.es W (he.step hW) (Q5.step hW)) hz))));have HN:=Ua Jt;clear Wr hSm Z0 hx hy hq C3 x5 hlf k0 k1 k2 k3 l0 l1 l2 l3 hw Z4 he Q5 Zq Zu hz Jt;refine Q06 (E:=Q7l) (fun _=>Ud _ _) (by kernel_rfl) (fun W=>Bw wr W) (fun _ _ h h'=>Below.next0 h h') (Q3q [.slice (some ⟨b1,o1,none⟩) n c,.int .i64 (i:Int),.pointer (some ⟨b1,o1+i*4,none⟩),.pointer (some ⟨b1,o1+i*4,none⟩),.agg #[.bool x.neg,.int .i64 x.exp,.slice aw lw cw],.slice (some ⟨b2,o2,none⟩) n d,.int .i64 (i:Int),.pointer (some ⟨b2,o2+i*4,none⟩),.pointer (some ⟨b2,o2+i*4,none⟩),.agg #[.bool y.neg,.int .i64 y.exp,.slice bw lv cv],.bool true,.bool false,.bool false,.slice (some ⟨b1,o1,none⟩) n c,.int .i64 (i:Int),.pointer (some ⟨b1,o1+i*4,none⟩),.pointer (some ⟨b1,o1+i*4+3,none⟩),.slice ae le ce,.int .i64 (le:Int),.slice (some ⟨b2,o2,none⟩) n d,.int .i64 (i:Int),.pointer (some ⟨b2,o2+i*4,none⟩),.pointer (some ⟨b2,o2+i*4+3,none⟩),.slice be le cf,.int .i64 (le:Int),.bool false,.bool false,.bool false,.slice (some ⟨b1,o1,none⟩) n c,.int .i64 (i:Int),.pointer (some ⟨b1,o1+i*4,none⟩),.pointer (some ⟨b1,o1+i*4+3,none⟩),.slice ae le ce,.slice (some ⟨b2,o2,none⟩) n d,.int .i64 (i:Int),.pointer (some ⟨b2,o2+i*4,none⟩),.pointer (some ⟨b2,o2+i*4+3,none⟩),.slice be le cf,.int .i64 z,.bool zb,.bool zb] (Q13 [])) (Q08 (Q0e ((fun p hp=>by cases hp)))) (Q15 (by kernel_rfl)) (by kernel_rfl) (Q04 wr) ?_ ?_
   ·skip
    repeat' (first|exact Q83|refine Q82 ?_ ?_)
    all_goals first
     |exact Qfc rfl rfl rfl
     |(refine Q1p rfl fun A W hW E0 hd hd=>?_
       simp[Q72,Region.binds,Q13] at hd;have e0:=Q07 E0 0 (by kernel_rfl) rfl;have e5:=Q07 E0 5 (by kernel_rfl) rfl;have e1:=Q07 E0 1 (by kernel_rfl) rfl;obtain ⟨k0,k1,k2,k3⟩:=(HC.out W hW).1;obtain ⟨l0,l1,l2,l3⟩:=(HC.out W hW).2.1
       first
       |(refine Q12 rfl rfl ?_;simp[go_sem,hd,e0,e5,e1,G0,k0,k1,k2,k3,l0,l1,l2,l3,hzb3];done)
       |(refine Q2b rfl rfl ?_ ((HC.out W hW).2.2.1);simp[go_sem,hd];done)
       |(refine Q2b rfl rfl ?_ (((HC.out W hW).2.2.2));simp[go_sem,hd];done))
   intro vs W1 R1 A3;have HB:=Ua R1;have e40:vs 40=.bool zb:=(Q0j rfl).1 (A3 40 (by decide));simp only[Q0t,Act.put,Um,Ux,Ut,e40];clear R1 A3 e40;cases zb
   ·go_wp2_with fail
    have e:=HN.out.1 (by trivial);exact ⟨⟨i+1,congrArg (Value.int .i64) (by omega),by omega,Q58 (Xo1 HS) (Xo2 HS) (by rw[e];exact (Xe3 HS)),Below.next0 (Xo0 HS) HB.out⟩,by simp only[intOf];omega⟩
   ·go_wp2_with fail
    go_ret;exact ⟨Q0b.no (Q6s (Xo2 HS) (Xe3 HS) fun e=>by have:=HN.out.2 e;cases this) rfl,Below.next0 (Xo0 HS) HB.out⟩
  ·have G0:¬(i:Int)<(n:Int):=(by omega);have HS:=Xh2 Z0 (Q57 P2 A8 fun j hj=>hq j (by omega));clear Z0 hq
   go_wp2_with fail
   go_ret;exact ⟨Q0b.yes (Xe1 HS) rfl,(Xo0 HS)⟩
--POLYE--
theorem Qay [LT ZK] (a b:OA) (n c m d:Nat) (F G:List (List Q01)) (w:World) (h1:Q1a w a n c F) (h2:Q1a w b m d G):
 Calls Tryz.prog 31 #[.slice a n c,.slice b m d] w fun r w'=>Q0b (F=G) r/\Bw w w':=by
 have P2:=h1.1;have A8:=h2.1;have E3:=Uj h1.2.1 h1.2.2.1;have Xh:=Uj h2.2.1 h2.2.2.1;have H:=Xh2 h1 h2;clear h1 h2
 by_cases hnm:n=m
 case neg=>
  have Y8:¬(n:Int)=(m:Int):=by omega
  go_enter Tryz.func31,Tryz.ntmps31
  go_wp2_with fail
  go_ret;exact ⟨Q0b.no (Qcf P2 A8 Y8) rfl,Ud _ _⟩
 case pos=>
 subst hnm
 go_enter Tryz.func31,Tryz.ntmps31
 go_wp2_with fail
 go_loopw [5] (fun s5 wr=>∃i:Nat,s5=.int .i64 (i:Int)/\i<=n/\(∀j,j<i->F[j]?=G[j]?)/\Bw w wr) (fun iv _=>n-(intOf iv).toNat)
 case atStart=>exact ⟨0,rfl,Uv _,fun j hj=>absurd hj (Tf _),Ud _ _⟩
 case round=>
  obtain ⟨i,rfl,hi,hq,Z0⟩:=hrel
  by_cases F0:i<n
  ·have G0:(i:Int)<(n:Int):=(by omega);obtain ⟨ms,hx⟩:∃ms,F[i]?=some ms:=⟨_,Ub (by omega)⟩;obtain ⟨ks,hy⟩:∃ms,G[i]?=some ms:=⟨_,Ub (by omega)⟩;obtain ⟨b1,o1,rfl,C0,p,l,dd,k0,KC⟩:=Qb6 ((Xo0 H).step Z0) hx;obtain ⟨b2,o2,rfl,D0,p2,l2,d2,k1,YH⟩:=Qb6 ((Xe1 H).step Z0) hy;obtain ⟨bb,C3⟩:∃b,yesB (ms=ks)=b:=⟨_,rfl⟩;have HC:=Ua (fun (W:World) (hB:Bw wr W)=>And.intro ((hB.cell (p:=⟨b1,o1+i,none⟩) C0).trans k0) (And.intro ((hB.cell (p:=⟨b2,o2+i,none⟩) D0).trans k1) (yn1 (Qd3 p p2 l dd l2 d2 ms ks W (KC.step hB) (YH.step hB)) C3)));have HS:=Xh5 Z0 hq hx hy C3;clear Z0 k0 k1 KC YH hx hy hq C3
   go_upto_region 6 with fail
   refine Q06 (E:=Q7l) (fun _=>Ud _ _) (by kernel_rfl) (fun W=>Bw wr W) (fun _ _ h h'=>Below.next0 h h') (Q3q [.slice (some ⟨b1,o1,none⟩) n c,.int .i64 (i:Int),.pointer (some ⟨b1,o1+i,none⟩),.slice p l dd,.slice (some ⟨b2,o2,none⟩) n d,.int .i64 (i:Int),.pointer (some ⟨b2,o2+i,none⟩),.slice p2 l2 d2,.bool bb,.bool (!bb)] (Q13 [])) (Q08 (Q0e ((fun p hp=>by cases hp)))) (Q15 (by kernel_rfl)) (by kernel_rfl) (Q04 wr) ?_ ?_
   ·skip
    repeat' (first|exact Q83|refine Q82 ?_ ?_)
    all_goals
     refine Q1p rfl fun A W hW E0 hd hd=>?_;simp[Q72,Region.binds,Q13] at hd;have e0:=Q07 E0 0 (by kernel_rfl) rfl;have e5:=Q07 E0 5 (by kernel_rfl) rfl;have e1:=Q07 E0 1 (by kernel_rfl) rfl
     first
     |(refine Q12 rfl rfl ?_;simp[go_sem,hd,e0,e5,e1,G0,(HC.out W hW).1,(HC.out W hW).2.1];done)
     |(refine Q2b rfl rfl ?_ ((HC.out W hW).2.2);simp[go_sem,hd];done)
   intro vs W1 R1 A3;have HB:=Ua R1;have e9:vs 9=.bool (!bb):=(Q0j rfl).1 (A3 9 (by decide));simp only[Q0t,Act.put,Um,Ux,Ut,e9];clear R1 A3 e9;cases bb
   ·go_wp2_with fail
    go_ret;exact ⟨Q0b.no (Q6s (Xo2 HS) (Xo3 HS) fun e=>by have:=(Xe4 HS);rw[Q0c.2 e] at this;cases this) rfl,Below.next0 (Xo0 HS) HB.out⟩
   ·go_wp2_with fail
    have e:=Q0c.1 (Xe4 HS);exact ⟨⟨i+1,congrArg (Value.int .i64) (by omega),by omega,Q58 (Xo1 HS) (Xo2 HS) (by rw[e];exact (Xo3 HS)),Below.next0 (Xo0 HS) HB.out⟩,by simp only[intOf];omega⟩
  ·have G0:¬(i:Int)<(n:Int):=(by omega);have HS:=Xh2 Z0 (Q57 P2 A8 fun j hj=>hq j (by omega));clear Z0 hq
   go_wp2_with fail
   go_ret;exact ⟨Q0b.yes (Xe1 HS) rfl,(Xo0 HS)⟩
theorem Qfx (x y:IvV) (p q r s:Pl) (w:World) (h1:Q0f w p.a p.l p.c x.lo) (h2:Q0f w q.a q.l q.c x.hi) (h3:Q0f w r.a r.l r.c y.lo) (h4:Q0f w s.a s.l s.c y.hi):
 Calls Tryz.prog 64 #[.agg #[.bool x.lo.neg,.int .i64 x.lo.exp,.slice p.a p.l p.c,.bool x.hi.neg,.int .i64 x.hi.exp,.slice q.a q.l q.c],.agg #[.bool y.lo.neg,.int .i64 y.lo.exp,.slice r.a r.l r.c,.bool y.hi.neg,.int .i64 y.hi.exp,.slice s.a s.l s.c]] w fun r w'=>Q0b (x=y) r/\Bw w w':=by
 obtain ⟨W0,M1⟩:∃W0,(w.alloc (.cells #[.bool x.lo.neg,.int .i64 x.lo.exp,.slice p.a p.l p.c,.bool x.hi.neg,.int .i64 x.hi.exp,.slice q.a q.l q.c] 44)).alloc (.cells #[.bool y.lo.neg,.int .i64 y.lo.exp,.slice r.a r.l r.c,.bool y.hi.neg,.int .i64 y.hi.exp,.slice s.a s.l s.c] 44)=W0:=⟨_,rfl⟩;obtain ⟨hX,hY,Q0,F2⟩:=Q7o [.bool x.lo.neg,.int .i64 x.lo.exp,.slice p.a p.l p.c,.bool x.hi.neg,.int .i64 x.hi.exp,.slice q.a q.l q.c] [.bool y.lo.neg,.int .i64 y.lo.exp,.slice r.a r.l r.c,.bool y.hi.neg,.int .i64 y.hi.exp,.slice s.a s.l s.c] 44 M1;obtain ⟨b1,e1⟩:∃b,yesB (x.lo=y.lo)=b:=⟨_,rfl⟩;obtain ⟨b2,e2⟩:∃b,yesB (x.hi=y.hi)=b:=⟨_,rfl⟩;have C4:b1=false->¬x=y:=fun h e=>by rw[Q0c.2 (Qe2.1 e).1] at e1;rw[<-e1] at h;cases h
 have KW:b1=true->(b2=true↔x=y):=fun h=>by
  rw[<-e2,Q0c];exact ⟨fun h2=>Qe2.2 ⟨Q0c.1 (e1.trans h),h2⟩,fun e=>(Qe2.1 e).2⟩
 have HC:=Ua (fun V (hV:Bw W0 V)=>have hb:=Below.next0 Q0 hV;And.intro (hX.step hV (by omega)) (And.intro (hY.step hV (by omega)) (And.intro (yn1 (Q2v x.lo y.lo p.a r.a p.l p.c r.l r.c V (h1.step hb) (h3.step hb)) e1) (yn1 (Q2v x.hi y.hi q.a s.a q.l q.c s.l s.c V (h2.step hb) (h4.step hb)) e2))));have HB:=Xh3 Q0 C4 KW;obtain ⟨k0,k1,k2,k3,k4,k5⟩:=Q9i hX;obtain ⟨l0,l1,l2,l3,l4,l5⟩:=Q9i hY;clear hX hY Q0 F2 h1 h2 h3 h4 C4 KW e1 e2;cases b1
 all_goals
  go_enter Tryz.func64,Tryz.ntmps64
  go_upto_region 1 with fail
  clear M1
  go_wp2_with (first
   |(go_at_call_of 33 (Value.agg #[.bool x.lo.neg,.int .i64 x.lo.exp,.slice p.a p.l p.c]);refine (HC.out W0 (Ud _ _)).2.2.1.mono ?_;rintro e w1 ⟨rfl,hb⟩;have H1:=Ua hb;have hq:=HC.out w1 hb;obtain ⟨k0,k1,k2,k3,k4,k5⟩:=Q9i hq.1;obtain ⟨l0,l1,l2,l3,l4,l5⟩:=Q9i hq.2.1;clear hq hb)
   |(refine (HC.out w1 H1.out).2.2.2.mono ?_;rintro e w2 ⟨rfl,hb⟩;have H2:=Ua (Below.next0 H1.out hb);clear hb))
  go_ret
 ·exact ⟨Q0b.no ((Xo1 HB) (by trivial)) rfl,Below.next0 (Xo0 HB) H1.out⟩
 ·exact ⟨Q0b.of ((Xe2 HB) (by trivial)) rfl,Below.next0 (Xo0 HB) H2.out⟩
theorem Qdk (a b:OA) (n c m d:Nat) (B D:List IvV) (w:World) (h1:Q6r w a n c B) (h2:Q6r w b m d D):
 Calls Tryz.prog 32 #[.slice a n c,.slice b m d] w fun r w'=>Q0b (B=D) r/\Bw w w':=by
 have P2:=h1.1;have A8:=h2.1;have E3:=Uj h1.2.1 h1.2.2.1;have Xh:=Uj h2.2.1 h2.2.2.1;have H:=Xh2 h1 h2;clear h1 h2
 by_cases hnm:n=m
 case neg=>
  have Y8:¬(n:Int)=(m:Int):=by omega
  go_enter Tryz.func32,Tryz.ntmps32
  go_wp2_with fail
  go_ret;exact ⟨Q0b.no (Qcf P2 A8 Y8) rfl,Ud _ _⟩
 case pos=>
 subst hnm
 go_enter Tryz.func32,Tryz.ntmps32
 go_wp2_with fail
 go_loopw [5] (fun s15 wr=>∃i:Nat,s15=.int .i64 (i:Int)/\i<=n/\(∀j,j<i->B[j]?=D[j]?)/\Bw w wr) (fun iv _=>n-(intOf iv).toNat)
 case atStart=>exact ⟨0,rfl,Uv _,fun j hj=>absurd hj (Tf _),Ud _ _⟩
 case round=>
  obtain ⟨i,rfl,hi,hq,Z0⟩:=hrel
  by_cases F0:i<n
  ·have G0:(i:Int)<(n:Int):=(by omega);obtain ⟨x,hx⟩:∃x,B[i]?=some x:=⟨_,Ub (by omega)⟩;obtain ⟨y,hy⟩:∃x,D[i]?=some x:=⟨_,Ub (by omega)⟩;obtain ⟨b1,o1,rfl,C0,pa,pl,pc,qa,ql,qc,hk,E6,C5⟩:=Qe3 ((Xo0 H).step Z0) hx;obtain ⟨b2,o2,rfl,D0,ra,rl,rc,sa,sl,sc,hl,hn3,X9⟩:=Qe3 ((Xe1 H).step Z0) hy;obtain ⟨bb,C3⟩:∃b,yesB (x=y)=b:=⟨_,rfl⟩;have HC:=Xh3 (fun (W:World) (hB:Bw wr W)=>And.intro (fun (j:Nat) v (h:wr.cell? ⟨b1,j,none⟩=some v)=>(hB.cell (p:=⟨b1,j,none⟩) C0).trans h) (And.intro (fun (j:Nat) v (h:wr.cell? ⟨b2,j,none⟩=some v)=>(hB.cell (p:=⟨b2,j,none⟩) D0).trans h) (yn1 (Qfx x y ⟨pa,pl,pc⟩ ⟨qa,ql,qc⟩ ⟨ra,rl,rc⟩ ⟨sa,sl,sc⟩ W (E6.step hB) (C5.step hB) (hn3.step hB) (X9.step hB)) C3))) hk hl;have HS:=Xh5 Z0 hq hx hy C3;clear hk hl Z0 E6 C5 hn3 X9 hx hy hq C3
   go_upto_region 6 with fail
   refine Q06 (E:=Q7l) (fun _=>Ud _ _) (by kernel_rfl) (fun W=>Bw wr W) (fun _ _ h h'=>Below.next0 h h') (Q3q [.slice (some ⟨b1,o1,none⟩) n c,.int .i64 (i:Int),.pointer (some ⟨b1,o1+i*6,none⟩),.agg #[.bool x.lo.neg,.int .i64 x.lo.exp,.slice pa pl pc,.bool x.hi.neg,.int .i64 x.hi.exp,.slice qa ql qc],.slice (some ⟨b2,o2,none⟩) n d,.int .i64 (i:Int),.pointer (some ⟨b2,o2+i*6,none⟩),.agg #[.bool y.lo.neg,.int .i64 y.lo.exp,.slice ra rl rc,.bool y.hi.neg,.int .i64 y.hi.exp,.slice sa sl sc],.bool bb,.bool (!bb)] (Q13 [])) (Q08 (Q0e ((fun p hp=>by cases hp)))) (Q15 (by kernel_rfl)) (by kernel_rfl) (Q04 wr) ?_ ?_
   ·skip
    repeat' (first|exact Q83|refine Q82 ?_ ?_)
    all_goals
     refine Q1p rfl fun A W hW E0 hd hd=>?_;simp[Q72,Region.binds,Q13] at hd;have e0:=Q07 E0 0 (by kernel_rfl) rfl;have e1:=Q07 E0 1 (by kernel_rfl) rfl;have e5:=Q07 E0 5 (by kernel_rfl) rfl;obtain ⟨hk,hl,F1⟩:=(Xo0 HC) W hW;obtain ⟨⟨k0,k1,k2,k3,k4,k5⟩,l0,l1,l2,l3,l4,l5⟩:=(Xe1 HC)
     first
     |(refine Q12 rfl rfl ?_;simp[go_sem,hd,e0,e1,e5,G0,hk _ _ k0,hk _ _ k1,hk _ _ k2,hk _ _ k3,hk _ _ k4,hk _ _ k5,hl _ _ l0,hl _ _ l1,hl _ _ l2,hl _ _ l3,hl _ _ l4,hl _ _ l5];done)
     |(refine Q2b rfl rfl ?_ F1;simp[go_sem,hd];done)
   intro vs W1 R1 A3;have HB:=Ua R1;have e9:vs 9=.bool (!bb):=(Q0j rfl).1 (A3 9 (by decide));simp only[Q0t,Act.put,Um,Ux,Ut,e9];clear R1 A3 e9;cases bb
   ·go_wp2_with fail
    go_ret;exact ⟨Q0b.no (Q6s (Xo2 HS) (Xo3 HS) fun e=>by have:=(Xe4 HS);rw[Q0c.2 e] at this;cases this) rfl,Below.next0 (Xo0 HS) HB.out⟩
   ·go_wp2_with fail
    have e:=Q0c.1 (Xe4 HS);exact ⟨⟨i+1,congrArg (Value.int .i64) (by omega),by omega,Q58 (Xo1 HS) (Xo2 HS) (by rw[e];exact (Xo3 HS)),Below.next0 (Xo0 HS) HB.out⟩,by simp only[intOf];omega⟩
  ·have G0:¬(i:Int)<(n:Int):=(by omega);have HS:=Xh2 Z0 (Q57 P2 A8 fun j hj=>hq j (by omega));clear Z0 hq
   go_wp2_with fail
   go_ret;exact ⟨Q0b.yes (Xe1 HS) rfl,(Xo0 HS)⟩
theorem Qd4 [LT ZK] (x y:Q33) (p q:Qfg) (w:World) (h1:Q2j w p x) (h2:Q2j w q y):
 Calls Tryz.prog 12 #[.agg (Q2e p x).toArray,.agg (Q2e q y).toArray] w fun r w'=>Q0b (x=y) r/\Bw w w':=by
 obtain ⟨⟨pfa,pfl,pfc⟩,⟨pba,pbl,pbc⟩,⟨pta,ptl,ptc⟩,⟨pma,pml,pmc⟩,⟨pea,pel,pec⟩⟩:=p;obtain ⟨⟨qfa,qfl,qfc⟩,⟨qba,qbl,qbc⟩,⟨qta,qtl,qtc⟩,⟨qma,qml,qmc⟩,⟨qea,qel,qec⟩⟩:=q;obtain ⟨F,B,⟨tn,te,ts⟩,⟨mn,me,ms⟩,⟨en,ee,es⟩,prec,order,budget⟩:=x;obtain ⟨G,D,⟨un,ue,us⟩,⟨nn,ne,ns⟩,⟨fn,fe,fs⟩,prec2,order2,budget2⟩:=y;simp only[Q2e];obtain ⟨W0,M1⟩:∃W0,(w.alloc (.cells #[.slice pfa pfl pfc,.slice pba pbl pbc,.bool tn,.int .i64 te,.slice pta ptl ptc,.bool mn,.int .i64 me,.slice pma pml pmc,.bool en,.int .i64 ee,.slice pea pel pec,.int .i64 prec,.int .i64 order,.int .i64 budget] 28)).alloc (.cells #[.slice qfa qfl qfc,.slice qba qbl qbc,.bool un,.int .i64 ue,.slice qta qtl qtc,.bool nn,.int .i64 ne,.slice qma qml qmc,.bool fn,.int .i64 fe,.slice qea qel qec,.int .i64 prec2,.int .i64 order2,.int .i64 budget2] 28)=W0:=⟨_,rfl⟩;obtain ⟨hX,hY,Q0,F2⟩:=Q7o [.slice pfa pfl pfc,.slice pba pbl pbc,.bool tn,.int .i64 te,.slice pta ptl ptc,.bool mn,.int .i64 me,.slice pma pml pmc,.bool en,.int .i64 ee,.slice pea pel pec,.int .i64 prec,.int .i64 order,.int .i64 budget] [.slice qfa qfl qfc,.slice qba qbl qbc,.bool un,.int .i64 ue,.slice qta qtl qtc,.bool nn,.int .i64 ne,.slice qma qml qmc,.bool fn,.int .i64 fe,.slice qea qel qec,.int .i64 prec2,.int .i64 order2,.int .i64 budget2] 28 M1;obtain ⟨b1,e1⟩:∃b,yesB (F=G)=b:=⟨_,rfl⟩;obtain ⟨b2,e2⟩:∃b,yesB (B=D)=b:=⟨_,rfl⟩;obtain ⟨b3,e3⟩:∃b,yesB ((⟨tn,te,ts⟩:Q2u)=⟨un,ue,us⟩)=b:=⟨_,rfl⟩;obtain ⟨b4,e4⟩:∃b,yesB ((⟨mn,me,ms⟩:Q2u)=⟨nn,ne,ns⟩)=b:=⟨_,rfl⟩;obtain ⟨b5,e5⟩:∃b,yesB ((⟨en,ee,es⟩:Q2u)=⟨fn,fe,fs⟩)=b:=⟨_,rfl⟩;have HC:=Ua (fun V (hV:Bw W0 V)=>have hb:=Below.next0 Q0 hV;have g1:=h1.step hb;have g2:=h2.step hb;And.intro (hX.step hV (by omega)) (And.intro (hY.step hV (by omega)) (And.intro (yn1 (Qay _ _ _ _ _ _ _ _ V g1.f g2.f) e1) (And.intro (yn1 (Qdk _ _ _ _ _ _ _ _ V g1.b g2.b) e2) (And.intro (yn1 (Q2v _ _ _ _ _ _ _ _ V g1.t g2.t) e3) (And.intro (yn1 (Q2v _ _ _ _ _ _ _ _ V g1.m g2.m) e4) (yn1 (Q2v _ _ _ _ _ _ _ _ V g1.e g2.e) e5)))))));have HB:=Ua Q0;have HE:=Xh5 e1 e2 e3 e4 e5;obtain ⟨k0,k1,k2,k3,k4,k5,k6,k7,k8,k9,k10,k11,k12,k13⟩:=Q05 hX;obtain ⟨l0,l1,l2,l3,l4,l5,l6,l7,l8,l9,l10,l11,l12,l13⟩:=Q05 hY;have key:=Qhb b1 b2 b3 b4 b5 (prec=prec2) (order=order2) (budget=budget2);clear hX hY Q0 F2 h1 h2 e1 e2 e3 e4 e5;rcases key with rfl|⟨rfl,rfl⟩|⟨rfl,rfl,rfl⟩|⟨rfl,rfl,rfl,rfl⟩|⟨rfl,rfl,rfl,rfl,rfl⟩|⟨rfl,rfl,rfl,rfl,rfl,hx⟩|⟨rfl,rfl,rfl,rfl,rfl,rfl,hx⟩|⟨rfl,rfl,rfl,rfl,rfl,rfl,rfl,hx⟩|⟨rfl,rfl,rfl,rfl,rfl,rfl,rfl,rfl⟩
 all_goals
  try (have Wo:(budget==budget2)=false:=by simpa using hx)
  go_enter Tryz.func12,Tryz.ntmps12
  go_upto_region 1 with fail
  clear M1
  go_wp2_with (first
   |(go_at_call 31;refine (HC.out W0 (Ud _ _)).2.2.1.mono ?_;rintro e w1 ⟨rfl,hb⟩;have H1:=Ua hb;have hq:=HC.out w1 H1.out;obtain ⟨k0,k1,k2,k3,k4,k5,k6,k7,k8,k9,k10,k11,k12,k13⟩:=Q05 hq.1;obtain ⟨l0,l1,l2,l3,l4,l5,l6,l7,l8,l9,l10,l11,l12,l13⟩:=Q05 hq.2.1;clear hq hb)
   |(go_at_call 32;refine (HC.out w1 H1.out).2.2.2.1.mono ?_;rintro e w2 ⟨rfl,hb⟩;have H2:=Ua (Below.next0 H1.out hb);have hq:=HC.out w2 H2.out;obtain ⟨k0,k1,k2,k3,k4,k5,k6,k7,k8,k9,k10,k11,k12,k13⟩:=Q05 hq.1;obtain ⟨l0,l1,l2,l3,l4,l5,l6,l7,l8,l9,l10,l11,l12,l13⟩:=Q05 hq.2.1;clear hq hb)
   |(go_at_call_of 33 (Value.agg #[.bool tn,.int .i64 te,.slice pta ptl ptc]);refine (HC.out w2 H2.out).2.2.2.2.1.mono ?_;rintro e w3 ⟨rfl,hb⟩;have H3:=Ua (Below.next0 H2.out hb);have hq:=HC.out w3 H3.out;obtain ⟨k0,k1,k2,k3,k4,k5,k6,k7,k8,k9,k10,k11,k12,k13⟩:=Q05 hq.1;obtain ⟨l0,l1,l2,l3,l4,l5,l6,l7,l8,l9,l10,l11,l12,l13⟩:=Q05 hq.2.1;clear hq hb)
   |(go_at_call_of 33 (Value.agg #[.bool mn,.int .i64 me,.slice pma pml pmc]);refine (HC.out w3 H3.out).2.2.2.2.2.1.mono ?_;rintro e w4 ⟨rfl,hb⟩;have H4:=Ua (Below.next0 H3.out hb);have hq:=HC.out w4 H4.out;obtain ⟨k0,k1,k2,k3,k4,k5,k6,k7,k8,k9,k10,k11,k12,k13⟩:=Q05 hq.1;obtain ⟨l0,l1,l2,l3,l4,l5,l6,l7,l8,l9,l10,l11,l12,l13⟩:=Q05 hq.2.1;clear hq hb)
   |(go_at_call_of 33 (Value.agg #[.bool en,.int .i64 ee,.slice pea pel pec]);refine (HC.out w4 H4.out).2.2.2.2.2.2.mono ?_;rintro e w5 ⟨rfl,hb⟩;have H5:=Ua (Below.next0 H4.out hb);have hq:=HC.out w5 H5.out;obtain ⟨k0,k1,k2,k3,k4,k5,k6,k7,k8,k9,k10,k11,k12,k13⟩:=Q05 hq.1;obtain ⟨l0,l1,l2,l3,l4,l5,l6,l7,l8,l9,l10,l11,l12,l13⟩:=Q05 hq.2.1;clear hq hb))
  go_ret
 ·exact ⟨Q0b.no (fun e=>Q56 (Xo0 HE) (Q21.1 e).1) rfl,Below.next0 HB.out H1.out⟩
 ·exact ⟨Q0b.no (fun e=>Q56 (Xo1 HE) (Q21.1 e).2.1) rfl,Below.next0 HB.out H2.out⟩
 ·exact ⟨Q0b.no (fun e=>Q56 (Xo2 HE) (Q21.1 e).2.2.1) rfl,Below.next0 HB.out H3.out⟩
 ·exact ⟨Q0b.no (fun e=>Q56 (Xo3 HE) (Q21.1 e).2.2.2.1) rfl,Below.next0 HB.out H4.out⟩
 ·exact ⟨Q0b.no (fun e=>Q56 (Xe4 HE) (Q21.1 e).2.2.2.2.1) rfl,Below.next0 HB.out H5.out⟩
 ·exact ⟨Q0b.no (fun e=>hx (Q21.1 e).2.2.2.2.2.1) rfl,Below.next0 HB.out H5.out⟩
 ·exact ⟨Q0b.no (fun e=>hx (Q21.1 e).2.2.2.2.2.2.1) rfl,Below.next0 HB.out H5.out⟩
 ·exact ⟨Q0b.no (fun e=>hx (Q21.1 e).2.2.2.2.2.2.2) rfl,Below.next0 HB.out H5.out⟩
 ·exact ⟨Q0b.yes (Q21.2 ⟨Q0c.1 (Xo0 HE),Q0c.1 (Xo1 HE),Q0c.1 (Xo2 HE),Q0c.1 (Xo3 HE),Q0c.1 (Xe4 HE),rfl,rfl,rfl⟩) rfl,Below.next0 HB.out H5.out⟩
open DecM
theorem Qrr {n:Bool} {v:Nat} {f:Int} {x y:Dyadic} (h:dy (sgn n v) f=x+ -y):Q3x (Qnn n v) x y:=by
 have hx:x-y=dy (sgn n v) f:=by rw[h];grind
 have hy:y-x=dy (-(sgn n v)) f:=by rw[<-Qgd,h];grind
 unfold Q3x;rw[hx,hy,Q4g,Q4g];unfold Qnn sgn
 by_cases h0:v=0
 ·subst h0;simp
 ·cases n <;> simp[h0] <;> omega
theorem Q4u (x y:Q2u) (ax:OA) (lx cx:Nat) (ay:OA) (ly cy:Nat) (w:World) (h1:Q0f w ax lx cx x) (h2:Q0f w ay ly cy y) (i1:x.ok) (i2:y.ok):
 Calls Tryz.prog 26 #[.agg #[.bool x.neg,.int .i64 x.exp,.slice ax lx cx],.agg #[.bool y.neg,.int .i64 y.exp,.slice ay ly cy]] w fun e w'=>(∃s,e=.returned (.int .i64 s)/\Q3x s x.val y.val)/\Bw w w':=by
 obtain ⟨F2,hX,hY,Q0⟩:=Q89 w (.bool x.neg) (.int .i64 x.exp) (.slice ax lx cx) (.bool y.neg) (.int .i64 y.exp) (.slice ay ly cy) 26 26;obtain ⟨W0,M1⟩:∃W0,(w.alloc (.cells #[.bool x.neg,.int .i64 x.exp,.slice ax lx cx] 26)).alloc (.cells #[.bool y.neg,.int .i64 y.exp,.slice ay ly cy] 26)=W0:=⟨_,rfl⟩;rw[M1] at F2 hX hY Q0;have Zy:=fun W (hW:Bw W0 W)=>Q1m x.neg x.exp ax lx cx x.ws W (h1.lie.step (Below.next0 Q0 hW)) h1.lo h1.hi (Uj h1.lie.cap h1.lie.most);have hry:=fun W (hW:Bw W0 W)=>Q1m y.neg y.exp ay ly cy y.ws W (h2.lie.step (Below.next0 Q0 hW)) h2.lo h2.hi (Uj h2.lie.cap h2.lie.most);rw[UW (show Q0a x.neg x.exp x.ws from i1)] at Zy;rw[UW (show Q0a y.neg y.exp y.ws from i2)] at hry;have HQ:=Xh4 (fun W (hW:Bw W0 W)=>And.intro (hX.step hW (by omega)) (hY.step hW (by omega))) Zy hry Q0;have HW:=Xh4 h1 h2 i1 i2;obtain ⟨k0,k1,k2⟩:=hX.cc;clear F2 hX hY Q0 Zy hry h1 h2 i1 i2
 go_enter Tryz.func26,Tryz.ntmps26
 go_upto_region 1 with fail
 clear M1
 go_upto_region 3 with (first
  |(go_at_call 25;refine ((Xo2 HQ) W1 H1.out).mono ?_;rintro r W2 ⟨rfl,D0⟩;have H2:=Ua (Below.next0 H1.out D0);clear D0)
  |(go_at_call 25;refine ((Xo1 HQ) W0 (Ud _ _)).mono ?_;rintro r W1 ⟨rfl,C0⟩
    have hq:=((Xo0 HQ) W1 C0).2;obtain ⟨l0,l1,l2⟩:=hq.cc;have H1:=Ua C0;clear C0 hq))
 have HC:=Ua (fun W (hW:Bw W2 W)=>(Xo0 HQ) W (Below.next0 H2.out hW));have HB:=Ua (fun W (hW:Bw W2 W)=>Below.next0 (Below.next0 (Xe3 HQ) H2.out) hW);refine Q06 (E:=Q7l) (fun w=>Ud _ w) (by kernel_rfl) (fun W=>Bw W2 W) (fun _ _ h h'=>Below.next0 h h') (Q3q [.agg #[.bool x.neg,.int .i64 x.exp,.slice ax lx cx],undef,.agg #[.bool y.neg,.int .i64 y.exp,.slice ay ly cy],undef,undef,undef] (Q13 [(1,fun u w=>Q5c w u x.val),(3,fun u w=>Q5c w u y.val),(4,fun u _=>∃s,u=.int .i64 s/\Q3x s x.val y.val),(5,fun u _=>∃s,u=.int .i64 s/\Q3x s x.val y.val)])) (Q08 (Q0e (Qt4 (Q1g _) (Q1g _) (fun _ _ _ h _=>h) (fun _ _ _ h _=>h)))) (Q15 (by kernel_rfl)) (by kernel_rfl) (Q04 W2) ?_ ?_
 ·refine ⟨fun A W hW E0 A0=>?_,?_⟩
  ·have e2:=Q07 E0 2 (by kernel_rfl) rfl;have hq:=(HC.out W hW).1;obtain ⟨k0,k1,k2⟩:=hq.cc;refine Q02 rfl (Q12 rfl rfl ?_);simp[go_sem,e2,k0,k1,k2]
  refine ⟨fun A W hW E0 A0=>?_,?_⟩
  ·have e13:=Q11 A0 0 (by decide) rfl rfl rfl;refine Q02 rfl ?_;refine Q0s (f:=59) (args:= #[.agg #[.bool x.neg,.int .i64 x.exp,.slice ax lx cx]]) (by simp[go_sem,e13]) ((Q7p x.neg x.exp ax lx cx x.ws W ((Xo0 HW).lie.step (HB.out W hW)) (Xo2 HW)).mono ?_);rintro e w2' ⟨u',rfl,B9,F3⟩;exact ⟨_,rfl,F3,(Q00 rfl).2 B9⟩
  refine ⟨fun A W hW E0 A0=>?_,?_⟩
  ·have e3:=Q07 E0 3 (by kernel_rfl) rfl;have hq:=(HC.out W hW).2;obtain ⟨k0,k1,k2⟩:=hq.cc;refine Q02 rfl (Q12 rfl rfl ?_);simp[go_sem,e3,k0,k1,k2]
  refine ⟨fun A W hW E0 A0=>?_,?_⟩
  ·have e15:=Q11 A0 2 (by decide) rfl rfl rfl;refine Q02 rfl ?_;refine Q0s (f:=59) (args:= #[.agg #[.bool y.neg,.int .i64 y.exp,.slice ay ly cy]]) (by simp[go_sem,e15]) ((Q7p y.neg y.exp ay ly cy y.ws W ((Xo1 HW).lie.step (HB.out W hW)) (Xe3 HW)).mono ?_);rintro e w2' ⟨u',rfl,B9,F3⟩;exact ⟨_,rfl,F3,(Q00 rfl).2 B9⟩
  refine ⟨fun A W hW E0 A0=>?_,?_⟩
  ·obtain ⟨n7,a7,l7,c7,q7,v7,QR,Q9,WX,Xe⟩:=(Q00 rfl).1 (A0 1 (by decide));obtain ⟨n8,a8,l8,c8,q8,v8,hu8,Qv,hc8,Y9⟩:=(Q00 rfl).1 (A0 3 (by decide));have e14:=Q1o QR;have e16:=Q1o hu8;refine Q02 rfl ?_;refine Q0s (f:=58) (args:= #[.agg #[.bool n7,.slice a7 l7 c7,.int .i64 q7],.agg #[.bool n8,.slice a8 l8 c8,.int .i64 q8]]) (by simp[go_sem,e14,e16]) ((Qhx n7 a7 l7 c7 q7 v7 n8 a8 l8 c8 q8 v8 W Q9 Qv WX hc8 69632 (by rw[Xe];exact Q6q (Q2h (Xo2 HW) (Xo0 HW).lie.low) (Ue _)) (by rw[Y9];exact Q6q (Q2h (Xe3 HW) (Xo1 HW).lie.low) (Ue _)) (by decide)).mono ?_);rintro e w2' ⟨⟨n9,v9,f9,rfl,hc9,QO⟩,F3⟩;rw[Xe,Y9] at QO;exact ⟨_,rfl,F3,(Q00 rfl).2 ⟨_,rfl,Qrr QO⟩⟩
  refine ⟨fun A W hW E0 A0=>?_,trivial⟩
  ·obtain ⟨s,hs,hS⟩:=(Q00 rfl).1 (A0 4 (by decide));have e17:=Q1o hs;refine Q02 rfl ?_;exact Q2y (w':=W) (u:=.int .i64 s) (by simp[go_sem,e17]) (Ud _ _) ((Q00 rfl).2 ⟨s,rfl,hS⟩)
 intro vs W3 E9 A3;obtain ⟨s,v5,hS⟩:=(Q00 rfl).1 (A3 5 (by decide));simp only[Q0t,Act.put,Um,Ux,Ut];rw[v5];have HE:=Xh2 hS (HB.out W3 E9);clear E9 A3 v5
 go_wp2_with fail
 go_ret;exact ⟨⟨_,rfl,(Xo0 HE)⟩,(Xe1 HE)⟩
theorem Qdl (x:IvV) (a b:OA) (l c m d:Nat) (w:World) (h1:Q0f w a l c x.lo) (h2:Q0f w b m d x.hi):
 Calls Tryz.prog 57 #[.agg #[.bool x.lo.neg,.int .i64 x.lo.exp,.slice a l c,.bool x.hi.neg,.int .i64 x.hi.exp,.slice b m d]] w fun r w'=>Q0b x.ok r/\Bw w w':=by
 obtain ⟨⟨nx,ex,ls⟩,⟨ny,ey,ks⟩⟩:=x;obtain ⟨S4,x6,I7⟩:=h1;obtain ⟨Z4,QM,QA⟩:=h2;simp only at S4 x6 I7 Z4 QM QA⊢;have J1:=Uj S4.cap S4.most;have I1:=Uj Z4.cap Z4.most;have hC:=Q2x.new w [.bool nx,.int .i64 ex,.slice a l c,.bool ny,.int .i64 ey,.slice b m d] 44;have Q0:Bw w (w.alloc (.cells #[.bool nx,.int .i64 ex,.slice a l c,.bool ny,.int .i64 ey,.slice b m d] 44)):=Ba;have F0:=Q0o w (.cells #[.bool nx,.int .i64 ex,.slice a l c,.bool ny,.int .i64 ey,.slice b m d] 44);obtain ⟨W0,M1⟩:∃W0,w.alloc (.cells #[.bool nx,.int .i64 ex,.slice a l c,.bool ny,.int .i64 ey,.slice b m d] 44)=W0:=⟨_,rfl⟩;rw[M1] at Q0 F0
 change Q2x (w.alloc (.cells #[.bool nx,.int .i64 ex,.slice a l c,.bool ny,.int .i64 ey,.slice b m d] 44)) _ _ at hC
 rw[M1] at hC;have HC:=Ua (fun W (hW:Bw W0 W)=>have hb:=Below.next0 Q0 hW;And.intro (hC.step hW F0) (And.intro (Q1m nx ex a l c ls W (S4.step hb) x6 I7 J1) (And.intro (Q1m ny ey b m d ks W (Z4.step hb) QM QA I1) (fun i1 i2=>Q4u ⟨nx,ex,ls⟩ ⟨ny,ey,ks⟩ a l c b m d W ⟨S4.step hb,x6,I7⟩ ⟨Z4.step hb,QM,QA⟩ i1 i2))));have HB:=Ua Q0;have k0:=hC 0 _ rfl;have k1:=hC 1 _ rfl;have k2:=hC 2 _ rfl;have k3:=hC 3 _ rfl;have k4:=hC 4 _ rfl;have k5:=hC 5 _ rfl;clear hC Q0 F0 S4 Z4;obtain ⟨p1,F9⟩:∃p,decide (Q0a nx ex ls)=p:=⟨_,rfl⟩;obtain ⟨p2,JS⟩:∃p,decide (Q0a ny ey ks)=p:=⟨_,rfl⟩;have HP:=Xh2 F9 JS;clear F9 JS;cases p1
 case false=>
  go_enter Tryz.func57,Tryz.ntmps57
  go_upto_region 1 with fail
  clear M1
  go_wp2_with (go_at_call 25;refine (HC.out W0 (Ud _ _)).2.1.mono ?_;rintro e w1 ⟨rfl,C0⟩;rw[(Xo0 HP)];have H1:=Ua C0;clear C0)
  go_ret;exact ⟨Q0b.no (fun h=>Xaq (Xo0 HP) h.1) rfl,Below.next0 HB.out H1.out⟩
 cases p2
 case false=>
  go_enter Tryz.func57,Tryz.ntmps57
  go_upto_region 1 with fail
  clear M1
  go_wp2_with (first
   |(go_at_call_of 25 (Value.agg #[.bool ny,.int .i64 ey,.slice b m d]);refine (HC.out w1 H1.out).2.2.1.mono ?_;rintro e w2 ⟨rfl,D0⟩;rw[(Xe1 HP)];have H2:=Ua (Below.next0 H1.out D0);clear D0)
   |(go_at_call_of 25 (Value.agg #[.bool nx,.int .i64 ex,.slice a l c]);refine (HC.out W0 (Ud _ _)).2.1.mono ?_;rintro e w1 ⟨rfl,C0⟩;rw[(Xo0 HP)];have H1:=Ua C0;have hq:=(HC.out w1 C0).1;have k0:=hq 0 _ rfl;have k1:=hq 1 _ rfl;have k2:=hq 2 _ rfl;have k3:=hq 3 _ rfl;have k4:=hq 4 _ rfl;have k5:=hq 5 _ rfl;clear hq C0))
  go_ret;exact ⟨Q0b.no (fun h=>Xaq (Xe1 HP) h.2.1) rfl,Below.next0 HB.out H2.out⟩
 have HI:=Xh2 (TF (Xo0 HP)) (TF (Xe1 HP))
 go_enter Tryz.func57,Tryz.ntmps57
 go_upto_region 1 with fail
 clear M1
 go_wp2_with (first
  |(go_at_call 26;refine ((HC.out w2 H2.out).2.2.2 (Xo0 HI) (Xe1 HI)).mono ?_;rintro e w3 ⟨⟨s,rfl,hs⟩,M0⟩;have H3:=Xh2 hs (Below.next0 H2.out M0);clear hs M0)
  |(go_at_call_of 25 (Value.agg #[.bool ny,.int .i64 ey,.slice b m d]);refine (HC.out w1 H1.out).2.2.1.mono ?_;rintro e w2 ⟨rfl,D0⟩;rw[(Xe1 HP)];have H2:=Ua (Below.next0 H1.out D0);have hq:=(HC.out w2 H2.out).1;have k0:=hq 0 _ rfl;have k1:=hq 1 _ rfl;have k2:=hq 2 _ rfl;have k3:=hq 3 _ rfl;have k4:=hq 4 _ rfl;have k5:=hq 5 _ rfl;clear hq D0)
  |(go_at_call_of 25 (Value.agg #[.bool nx,.int .i64 ex,.slice a l c]);refine (HC.out W0 (Ud _ _)).2.1.mono ?_;rintro e w1 ⟨rfl,C0⟩;rw[(Xo0 HP)];have H1:=Ua C0;have hq:=(HC.out w1 C0).1;have k0:=hq 0 _ rfl;have k1:=hq 1 _ rfl;have k2:=hq 2 _ rfl;have k3:=hq 3 _ rfl;have k4:=hq 4 _ rfl;have k5:=hq 5 _ rfl;clear hq C0))
 go_ret;refine ⟨Q0b.of (b:=decide (s<=0)) ?_ rfl,Below.next0 HB.out (Xe1 H3)⟩;have hs:=(Xo0 H3).2;unfold IvV.ok Q9x;rw[TC];refine ⟨fun h=>⟨(Xo0 HI),(Xe1 HI),?_⟩,fun h=>?_⟩
 ·cases hv:Q2s (Q2m ny ey ks-Q2m nx ex ls)
  ·exact hv
  ·have:=hs.2 hv;omega
 ·refine Int.not_lt.1 fun h0=>?_;have h3:=h.2.2;have h4:=hs.1 h0;unfold Q2u.val at h3 h4;rw[h4] at h3;cases h3
theorem Qd5 (a:OA) (n c:Nat) (B:List IvV) (w:World) (h:Q6r w a n c B):
 Calls Tryz.prog 24 #[.slice a n c] w fun r w'=>Q0b (Qce B) r/\Bw w w':=by
 have P2:=h.1;subst P2;have E3:=Uj h.2.1 h.2.2.1;have HM:=Ua h;clear h
 go_enter Tryz.func24,Tryz.ntmps24
 go_wp2_with fail
 go_loopw [3] (fun iv wr=>∃i:Nat,iv=.int .i64 (i:Int)/\i<=B.length/\i<=4/\(∀j x,j<i->B[j]?=some x->x.ok)/\Bw w wr) (fun iv _=>5-(intOf iv).toNat)
 case atStart=>exact ⟨0,rfl,Uv _,Uv _,fun j m h=>absurd h (Tf _),Ud _ _⟩
 case round=>
  obtain ⟨i,rfl,hi,hi4,X1,hb⟩:=hrel
  by_cases F0:i<B.length
  ·have G0:(i:Int)<(B.length:Int):=by omega
   by_cases h4:i<4
   ·have h4':(i:Int)<4:=(by omega);obtain ⟨x,hm⟩:∃x,B[i]?=some x:=⟨_,Ub F0⟩;obtain ⟨b0,o0,rfl,Q0,J2⟩:∃b o,a=some ⟨b,o,none⟩/\b<wr.heap.size/\∀j x,B[j]?=some x->Qt7 wr b (o+j*6) x:=by
     rcases (HM.out.step hb).2.2.2 with h0|h0
     ·rw[h0] at F0;simp at F0
     ·exact h0
    obtain ⟨p,l,d,q,m,e,⟨y0,y1,y2,y3,y4,y5⟩,E6,C5⟩:=J2 i x hm;obtain ⟨r,hr,F1⟩:=yn (Qdl x p q l d m e _ E6 C5);have HA:=Xh5 X1 hb hm hr F1;clear X1 hb hm J2 E6 C5 hr F1;cases r
    ·go_wp2_with (refine (Xe4 HA).mono ?_;rintro r w1 ⟨rfl,C0⟩;have I0:=Ua C0;clear C0)
     go_ret;exact ⟨Q0b.no (fun h=>by have:=(Xo3 HA).2 (h.2.2 x (Ug (Xo2 HA)));cases this) rfl,Below.next0 (Xo1 HA) I0.out⟩
    ·go_wp2_with (refine (Xe4 HA).mono ?_;rintro r w1 ⟨rfl,C0⟩;have I0:=Ua C0;clear C0)
     refine ⟨⟨i+1,by simp,by omega,by omega,fun j z hj hx=>?_,Below.next0 (Xo1 HA) I0.out⟩,by simp only[intOf];omega⟩
     by_cases hji:j=i
     ·subst hji;have:=(Xo2 HA);rw[hx] at this;injection this with this;rw[this];exact (Xo3 HA).1 (by trivial)
     ·exact (Xo0 HA) j z (by omega) hx
   ·have h4':¬(i:Int)<4:=(by omega);have k1':(0:Int)<(B.length:Int):=(by omega);have k4':¬(B.length:Int)<=4:=(by omega);have HF:=Ua hb;clear hb X1
    go_wp2_with fail
    go_ret;exact ⟨Q0b.no (fun h=>by have:=h.2.1;omega) rfl,HF.out⟩
  ·obtain rfl:i=B.length:=(by omega);have G0:¬((B.length:Int)<(B.length:Int)):=(by omega);have A1:∀x∈B,x.ok:=fun m hm=>by
    obtain ⟨j,hj⟩:=US.1 hm;exact X1 j m (Uh.1 hj).1 hj
   have HF:=Xh2 A1 hb;clear A1 hb X1;have k4':(B.length:Int)<=4:=by omega
   by_cases k1:1<=B.length
   ·have k1':(0:Int)<(B.length:Int):=by omega
    go_wp2_with fail
    go_ret;exact ⟨Q0b.yes ⟨k1,hi4,(Xo0 HF)⟩ rfl,(Xe1 HF)⟩
   ·have k1':¬(0:Int)<(B.length:Int):=by omega
    go_wp2_with fail
    go_ret;exact ⟨Q0b.no (fun h=>k1 h.1) rfl,(Xe1 HF)⟩
end Go.Proofs.YtidojbkhlenahaaGreatDoor
namespace Go.Proofs.YtidojbkhlenahaaGreatDoor
open Go.RowKit WordsM
def Qil (k:Nat) (ms:List Q01) (w:World) (iv:Value) (wr:World):Prop:=∃i:Nat,iv=.int .i64 (i:Int)/\i<=ms.length/\(∀j m,j<i->ms[j]?=some m->OkM k m)/\(∀j p q,j+1<i->ms[j]?=some p->ms[j+1]?=some q->0<Q2w p.es q.es)/\Bw w wr
theorem Qil.next {k i:Nat} {ms:List Q01} {w wr:World} {x:Q01} (hx:ms[i]?=some x) (F0:i<ms.length) (X1:∀j m,j<i->ms[j]?=some m->OkM k m) (t9:∀j p q,j+1<i->ms[j]?=some p->ms[j+1]?=some q->0<Q2w p.es q.es) (h1:OkM k x) (h2:∀j p,i=j+1->ms[j]?=some p->0<Q2w p.es x.es) (hb:Bw w wr):
 Qil k ms w (.int .i64 ((i:Int)+1)) wr:=by
 refine ⟨i+1,congrArg (Value.int .i64) (by omega),F0,fun j m hj hm=>?_,fun j p q hj hp hq=>?_,hb⟩
 ·by_cases hji:j=i
  ·subst hji;rw[hx] at hm;injection hm with hm;subst hm;exact h1
  ·exact X1 j m (by omega) hm
 ·by_cases hji:j+1=i
  ·subst hji;rw[hx] at hq;injection hq with hq;subst hq;exact h2 j p rfl hp
  ·exact t9 j p q (by omega) hp hq
structure Qrs (W:World) (k b0 o0 i:Nat) (x:Q01) (aw:OA) (lw cw:Nat) (ae:OA) (le ce:Nat):Prop where
 c0:W.cell? ⟨b0,o0+i*4,none⟩=some (.bool x.neg)
 c1:W.cell? ⟨b0,o0+i*4+1,none⟩=some (.int .i64 x.exp)
 c2:W.cell? ⟨b0,o0+i*4+2,none⟩=some (.slice aw lw cw)
 c3:W.cell? ⟨b0,o0+i*4+3,none⟩=some (.slice ae le ce)
 mono:Calls Tryz.prog 99 #[.agg #[.bool x.neg,.int .i64 x.exp,.slice aw lw cw,.slice ae le ce],.int .i64 (k:Int)] W fun r w'=>r=.returned (.bool (decide (Q1l k x.es/\Q0a x.neg x.exp x.ws)))/\Bw W w'
theorem Qrs.cc {W:World} {k b0 o0 i:Nat} {x:Q01} {aw:OA} {lw cw:Nat} {ae:OA} {le ce:Nat} (h:Qrs W k b0 o0 i x aw lw cw ae le ce):W.cell? ⟨b0,o0+i*4,none⟩=some (.bool x.neg)/\W.cell? ⟨b0,o0+i*4+1,none⟩=some (.int .i64 x.exp)/\W.cell? ⟨b0,o0+i*4+2,none⟩=some (.slice aw lw cw):=⟨h.c0,h.c1,h.c2⟩
theorem Qwo [LT ZK] {w W:World} {k b0 o0 i:Nat} {x:Q01} {aw:OA} {lw cw:Nat} {ae:OA} {le ce:Nat} (hk:k<=4) (Q0:b0<w.heap.size) (q0:w.cell? ⟨b0,o0+i*4,none⟩=some (.bool x.neg)) (q1:w.cell? ⟨b0,o0+i*4+1,none⟩=some (.int .i64 x.exp)) (q2:w.cell? ⟨b0,o0+i*4+2,none⟩=some (.slice aw lw cw)) (q3:w.cell? ⟨b0,o0+i*4+3,none⟩=some (.slice ae le ce)) (hw:WordsIn w aw lw cw x.ws) (he:Q0p w ae le ce x.es) (h1: -9223372036854775808<=x.exp) (h2:x.exp<=9223372036854775807) (hb:Bw w W):
 Qrs W k b0 o0 i x aw lw cw ae le ce:=
 ⟨(hb.cell (p:=⟨b0,o0+i*4,none⟩) Q0).trans q0,(hb.cell (p:=⟨b0,o0+i*4+1,none⟩) Q0).trans q1,(hb.cell (p:=⟨b0,o0+i*4+2,none⟩) Q0).trans q2,(hb.cell (p:=⟨b0,o0+i*4+3,none⟩) Q0).trans q3,Qco x.neg x.exp aw lw cw x.ws ae le ce x.es k W (hw.step hb) (he.step hb) hk h1 h2⟩
structure Qug (W:World) (k b0 o0 i j:Nat) (x:Q01) (aw:OA) (lw cw:Nat) (ae:OA) (le ce:Nat) (ae2:OA) (ce2:Nat) (cv:Int):Prop extends Qrs W k b0 o0 i x aw lw cw ae le ce where
 d3:W.cell? ⟨b0,o0+j*4+3,none⟩=some (.slice ae2 le ce2)
 ord:Calls Tryz.prog 100 #[.slice ae2 le ce2,.slice ae le ce] W fun r w'=>r=.returned (.int .i64 cv)/\Bw W w'
theorem Qfy [LT ZK] (a:OA) (n c:Nat) (ms:List Q01) (k:Nat) (w:World) (h:Q0k w a n c ms) (hk:k<=9223372036854775807):
 Calls Tryz.prog 56 #[.slice a n c,.int .i64 (k:Int)] w fun r w'=>Q0b (Q38 k ms) r/\Bw w w':=by
 have P2:=h.1;subst P2;have E3:=Uj h.2.1 h.2.2.1;have HM:=Ua h;clear h
 go_enter Tryz.func56,Tryz.ntmps56
 by_cases h1:1<=k
 case neg=>
  have h1':(k:Int)<1:=by omega
  go_wp2_with fail
  go_ret;exact ⟨Q0b.no (fun h=>h1 h.1) rfl,Ud _ _⟩
 by_cases h4:k<=4
 case neg=>
  have h1':¬(k:Int)<1:=by omega
  have h4':4<(k:Int):=by omega
  go_wp2_with fail
  go_ret;exact ⟨Q0b.no (fun h=>h4 h.2.1) rfl,Ud _ _⟩
 have h1':¬(k:Int)<1:=by omega
 have h4':¬4<(k:Int):=by omega
 by_cases KX:ms.length<=24
 case neg=>
  have Km:24<(ms.length:Int):=by omega
  go_wp2_with fail
  go_ret;exact ⟨Q0b.no (fun h=>KX h.2.2.1) rfl,Ud _ _⟩
 have Km:¬24<(ms.length:Int):=by omega
 go_wp2_with fail
 go_loopw [5] (fun iv wr=>Qil k ms w iv wr) (fun iv _=>ms.length-(intOf iv).toNat)
 case atStart=>exact ⟨0,rfl,Uv _,(fun j m h=>absurd h (Tf _)),(fun j p q h=>absurd h (Tf _)),Ud _ _⟩
 case round=>
  obtain ⟨i,rfl,hi,X1,t9,Z0⟩:=hrel
  by_cases F0:i<ms.length
  ·have G0:(i:Int)<(ms.length:Int):=(by omega);obtain ⟨x,hx⟩:∃x,ms[i]?=some x:=⟨_,Ub F0⟩;obtain ⟨b0,o0,rfl,Q0,J2⟩:∃b o,a=some ⟨b,o,none⟩/\b<w.heap.size/\∀j m,ms[j]?=some m->Q74 w b (o+j*4) m:=by
    rcases (Xe3 HM) with h0|h0
    ·rw[h0] at F0;simp at F0
    ·exact h0
   have hb0r:b0<wr.heap.size:=Uc Q0 Z0.size;obtain ⟨aw,lw,cw,ae,le,ce,q0,q1,q2,q3,hw,he,K5,Z3⟩:=(J2 i x hx).step Z0 Q0;have Wi:=fun W (hW:Bw wr W)=>Qwo h4 hb0r q0 q1 q2 q3 hw he K5 Z3 hW;have hwl:=hw.len;have hel:=he.len;have HA:=Xh6 X1 t9 Z0 hx he hel;clear X1 t9 Z0 hw K5 Z3 hx he
   go_upto_region 6 with fail
   by_cases hr:Q1l k x.es/\Q0a x.neg x.exp x.ws
   case neg=>
    have HC:=Ua (fun W hW=>by have h:=Wi W hW;have hm:=h.mono;rw[UU hr] at hm;exact (And.intro h hm));have HR:=Ua hr;clear Wi hr J2 hwl hel;refine Q06 (E:=Q7l) (fun _=>Ud _ _) (by kernel_rfl) (fun W=>Bw wr W) (fun _ _ h h'=>Below.next0 h h') (Q3q [.slice (some ⟨b0,o0,none⟩) ms.length c,.int .i64 (i:Int),.pointer (some ⟨b0,o0+i*4,none⟩),.agg #[.bool x.neg,.int .i64 x.exp,.slice aw lw cw,.slice ae le ce],.int .i64 (k:Int),.bool false,.bool true,.bool true,undef,undef,undef,undef,undef,undef,undef,undef,.bool true,.bool true,undef,undef,undef,undef,undef,undef,undef,undef,undef,undef,undef,undef,undef,undef,undef,undef,undef,.bool true] (Q13 [])) (Q08 (Q0e ((fun p hp=>by cases hp)))) (Q15 (by kernel_rfl)) (by kernel_rfl) (Q04 wr) ?_ ?_
    ·skip
     repeat' (first|exact Q83|refine Q82 ?_ ?_)
     all_goals first
      |exact Qfc rfl rfl rfl
      |(refine Q1p rfl fun A W hW E0 hd hd=>?_
        simp[Q72,Region.binds,Q13] at hd;have e0:=Q07 E0 0 (by kernel_rfl) rfl;have e5:=Q07 E0 5 (by kernel_rfl) rfl;have e1:=Q07 E0 1 (by kernel_rfl) rfl
        first
        |(refine Q12 rfl rfl ?_;simp[go_sem,hd,e0,e5,e1,G0,(HC.out W hW).1.c0,(HC.out W hW).1.c1,(HC.out W hW).1.c2,(HC.out W hW).1.c3];done)
        |(refine Q2b rfl rfl ?_ ((HC.out W hW).2);simp[go_sem,hd];done))
    intro vs W1 R1 A3;have HB:=Ua R1;have e35:vs 35=.bool true:=(Q0j rfl).1 (A3 35 (by decide));simp only[Q0t,Act.put,Um,Ux,Ut,e35];clear R1 A3 e35
    go_wp2_with fail
    go_ret;exact ⟨Q0b.no (fun h=>HR.out (h.2.2.2.1 x (Ug (Xo3 HA))).1) rfl,Below.next0 (Xo2 HA) HB.out⟩
   have Zc:∀W,Bw wr W->Calls Tryz.prog 99 #[.agg #[.bool x.neg,.int .i64 x.exp,.slice aw lw cw,.slice ae le ce],.int .i64 (k:Int)] W fun r w'=>r=.returned (.bool true)/\Bw W w':=fun W hW=>by have hm:=(Wi W hW).mono;rwa[UW hr] at hm
   by_cases hz:x.ws=[]
   ·have Xs:((lw:Int)==0)=true:=(by rw[beq_iff_eq,<-hwl,hz];rfl);have HC:=Ua (fun W hW=>And.intro (Wi W hW) (Zc W hW));have HR:=Ua hz;clear Wi Zc hr J2 hz hwl hel;refine Q06 (E:=Q7l) (fun _=>Ud _ _) (by kernel_rfl) (fun W=>Bw wr W) (fun _ _ h h'=>Below.next0 h h') (Q3q [.slice (some ⟨b0,o0,none⟩) ms.length c,.int .i64 (i:Int),.pointer (some ⟨b0,o0+i*4,none⟩),.agg #[.bool x.neg,.int .i64 x.exp,.slice aw lw cw,.slice ae le ce],.int .i64 (k:Int),.bool true,.bool false,.bool false,.slice (some ⟨b0,o0,none⟩) ms.length c,.int .i64 (i:Int),.pointer (some ⟨b0,o0+i*4,none⟩),.pointer (some ⟨b0,o0+i*4,none⟩),.pointer (some ⟨b0,o0+i*4+2,none⟩),.slice aw lw cw,.int .i64 (lw:Int),.bool true,.bool true,.bool true,undef,undef,undef,undef,undef,undef,undef,undef,undef,undef,undef,undef,undef,undef,undef,undef,undef,.bool true] (Q13 [])) (Q08 (Q0e ((fun p hp=>by cases hp)))) (Q15 (by kernel_rfl)) (by kernel_rfl) (Q04 wr) ?_ ?_
    ·skip
     repeat' (first|exact Q83|refine Q82 ?_ ?_)
     all_goals first
      |exact Qfc rfl rfl rfl
      |(refine Q1p rfl fun A W hW E0 hd hd=>?_
        simp[Q72,Region.binds,Q13] at hd;have e0:=Q07 E0 0 (by kernel_rfl) rfl;have e5:=Q07 E0 5 (by kernel_rfl) rfl;have e1:=Q07 E0 1 (by kernel_rfl) rfl
        first
        |(refine Q12 rfl rfl ?_;simp[go_sem,hd,e0,e5,e1,G0,(HC.out W hW).1.c0,(HC.out W hW).1.c1,(HC.out W hW).1.c2,(HC.out W hW).1.c3,Xs];done)
        |(refine Q2b rfl rfl ?_ ((HC.out W hW).2);simp[go_sem,hd];done))
    intro vs W1 R1 A3;have HB:=Ua R1;have e35:vs 35=.bool true:=(Q0j rfl).1 (A3 35 (by decide));simp only[Q0t,Act.put,Um,Ux,Ut,e35];clear R1 A3 e35
    go_wp2_with fail
    go_ret;exact ⟨Q0b.no (fun h=>(h.2.2.2.1 x (Ug (Xo3 HA))).2 HR.out) rfl,Below.next0 (Xo2 HA) HB.out⟩
   have Xs:((lw:Int)==0)=false:=by
    rw[Uk];intro e;exact hz (TN (by rw[hwl];omega))
   have HO:=Ua (show OkM k x from ⟨hr,hz⟩);clear hz hwl
   by_cases S2:0<i
   case neg=>
    have HZ:=Ua (show i=0 by omega);have HC:=Ua (fun W hW=>And.intro (Wi W hW) (Zc W hW));clear Wi Zc hr J2 hel;refine Q06 (E:=Q7l) (fun _=>Ud _ _) (by kernel_rfl) (fun W=>Bw wr W) (fun _ _ h h'=>Below.next0 h h') (Q3q [.slice (some ⟨b0,o0,none⟩) ms.length c,.int .i64 (i:Int),.pointer (some ⟨b0,o0+i*4,none⟩),.agg #[.bool x.neg,.int .i64 x.exp,.slice aw lw cw,.slice ae le ce],.int .i64 (k:Int),.bool true,.bool false,.bool false,.slice (some ⟨b0,o0,none⟩) ms.length c,.int .i64 (i:Int),.pointer (some ⟨b0,o0+i*4,none⟩),.pointer (some ⟨b0,o0+i*4,none⟩),.pointer (some ⟨b0,o0+i*4+2,none⟩),.slice aw lw cw,.int .i64 (lw:Int),.bool false,.bool false,.bool false,.int .i64 (i:Int),.bool false,.bool false,undef,undef,undef,undef,undef,undef,undef,undef,undef,undef,undef,undef,undef,.bool false,.bool false] (Q13 [])) (Q08 (Q0e ((fun p hp=>by cases hp)))) (Q15 (by kernel_rfl)) (by kernel_rfl) (Q04 wr) ?_ ?_
    ·skip
     repeat' (first|exact Q83|refine Q82 ?_ ?_)
     all_goals first
      |exact Qfc rfl rfl rfl
      |(refine Q1p rfl fun A W hW E0 hd hd=>?_
        simp[Q72,Region.binds,Q13] at hd;have e0:=Q07 E0 0 (by kernel_rfl) rfl;have e5:=Q07 E0 5 (by kernel_rfl) rfl;have e1:=Q07 E0 1 (by kernel_rfl) rfl
        first
        |(refine Q12 rfl rfl ?_;simp[go_sem,hd,e0,e5,e1,G0,(HC.out W hW).1.c0,(HC.out W hW).1.c1,(HC.out W hW).1.c2,(HC.out W hW).1.c3,Xs,(show¬0<i by have:=HZ.out;omega)];done)
        |(refine Q2b rfl rfl ?_ ((HC.out W hW).2);simp[go_sem,hd];done))
    intro vs W1 R1 A3;have HB:=Ua R1;have e35:vs 35=.bool false:=(Q0j rfl).1 (A3 35 (by decide));simp only[Q0t,Act.put,Um,Ux,Ut,e35];clear R1 A3 e35
    go_wp2_with fail
    exact ⟨Qil.next (Xo3 HA) F0 (Xo0 HA) (Xo1 HA) HO.out (fun j p h _=>absurd h (by omega)) (Below.next0 (Xo2 HA) HB.out),by simp only[intOf];omega⟩
   obtain ⟨j,Vv⟩:∃j,i=j+1:=⟨i-1,by omega⟩;have hjl0:j<ms.length:=(by omega);have hjl:(j:Int)<(ms.length:Int):=(by omega);have hwj:IntKind.i64.wrap ((i:Int)-1)=(j:Int):=(by rw[UY];omega);obtain ⟨y,hy⟩:∃y,ms[j]?=some y:=⟨_,Ub hjl0⟩;obtain ⟨aw2,lw2,cw2,ae2,le2,ce2,_,_,_,p3,_,Q5,_,_⟩:=(J2 j y hy).step (Xo2 HA) Q0;obtain rfl:le2=le:=by
    have h1:=((Xo0 HA) j y (by omega) hy).1.1.1;have h2:=hr.1.1;have h3:=Q5.len;omega
   obtain ⟨cv,hcv0⟩:∃cv,Q2w y.es x.es=cv:=⟨_,rfl⟩;have QL:∀W,Bw wr W->Qug W k b0 o0 i j x aw lw cw ae le2 ce ae2 ce2 cv:=fun W hW=>⟨Wi W hW,(hW.cell (p:=⟨b0,o0+j*4+3,none⟩) hb0r).trans p3,by
    have h:=Q5t ae2 le2 ce2 y.es ae ce x.es W (Q5.step hW) ((Xo4 HA).step hW);rw[hcv0] at h;refine h.mono ?_;rintro r w' ⟨h1,nk,rfl⟩;exact ⟨h1,Q19 (Ud _ _) nk⟩⟩
   have HC:=Ua (fun W hW=>And.intro (QL W hW) (Zc W hW));have HY:=Xh3 Vv hy hcv0;clear Wi Zc hr J2 hel QL Vv hy hcv0 p3 Q5
   by_cases hc:0<cv
   ·have HV1:=Ua (show cv=1 by have:=Qdt y.es x.es;rw[(Xe2 HY)] at this;omega);have HV:=Ua hc;clear hc;refine Q06 (E:=Q7l) (fun _=>Ud _ _) (by kernel_rfl) (fun W=>Bw wr W) (fun _ _ h h'=>Below.next0 h h') (Q3q [.slice (some ⟨b0,o0,none⟩) ms.length c,.int .i64 (i:Int),.pointer (some ⟨b0,o0+i*4,none⟩),.agg #[.bool x.neg,.int .i64 x.exp,.slice aw lw cw,.slice ae le2 ce],.int .i64 (k:Int),.bool true,.bool false,.bool false,.slice (some ⟨b0,o0,none⟩) ms.length c,.int .i64 (i:Int),.pointer (some ⟨b0,o0+i*4,none⟩),.pointer (some ⟨b0,o0+i*4,none⟩),.pointer (some ⟨b0,o0+i*4+2,none⟩),.slice aw lw cw,.int .i64 (lw:Int),.bool false,.bool false,.bool false,.int .i64 (i:Int),.bool true,.bool true,.slice (some ⟨b0,o0,none⟩) ms.length c,.int .i64 (i:Int),.int .i64 (j:Int),.pointer (some ⟨b0,o0+j*4,none⟩),.pointer (some ⟨b0,o0+j*4+3,none⟩),.slice ae2 le2 ce2,.slice (some ⟨b0,o0,none⟩) ms.length c,.int .i64 (i:Int),.pointer (some ⟨b0,o0+i*4,none⟩),.pointer (some ⟨b0,o0+i*4+3,none⟩),.slice ae le2 ce,.int .i64 cv,.bool false,.bool false,.bool false] (Q13 [])) (Q08 (Q0e ((fun p hp=>by cases hp)))) (Q15 (by kernel_rfl)) (by kernel_rfl) (Q04 wr) ?_ ?_
    ·skip
     repeat' (first|exact Q83|refine Q82 ?_ ?_)
     all_goals
      refine Q1p rfl fun A W hW E0 hd hd=>?_;simp[Q72,Region.binds,Q13] at hd;have e0:=Q07 E0 0 (by kernel_rfl) rfl;have e5:=Q07 E0 5 (by kernel_rfl) rfl;have e1:=Q07 E0 1 (by kernel_rfl) rfl
      first
      |(refine Q12 rfl rfl ?_;simp[go_sem,hd,e0,e5,e1,G0,(HC.out W hW).1.c0,(HC.out W hW).1.c1,(HC.out W hW).1.c2,(HC.out W hW).1.c3,Xs,S2,hwj,hjl,(HC.out W hW).1.d3,HV1.out];done)
      |(refine Q2b rfl rfl ?_ ((HC.out W hW).2);simp[go_sem,hd];done)
      |(refine Q2b rfl rfl ?_ (((HC.out W hW).1.ord));simp[go_sem,hd];done)
    intro vs W1 R1 A3;have HB:=Ua R1;have e35:vs 35=.bool false:=(Q0j rfl).1 (A3 35 (by decide));simp only[Q0t,Act.put,Um,Ux,Ut,e35];clear R1 A3 e35
    go_wp2_with fail
    refine ⟨Qil.next (Xo3 HA) F0 (Xo0 HA) (Xo1 HA) HO.out (fun j' p h hp=>?_) (Below.next0 (Xo2 HA) HB.out),by simp only[intOf];omega⟩;have h1:=(Xo0 HY);obtain rfl:j'=j:=(by omega);rw[(Xo1 HY)] at hp;injection hp with hp;rw[<-hp,(Xe2 HY)];exact HV.out
   ·have HV1:=Ua (show¬cv=1 by omega);have HV:=Ua hc;clear hc;refine Q06 (E:=Q7l) (fun _=>Ud _ _) (by kernel_rfl) (fun W=>Bw wr W) (fun _ _ h h'=>Below.next0 h h') (Q3q [.slice (some ⟨b0,o0,none⟩) ms.length c,.int .i64 (i:Int),.pointer (some ⟨b0,o0+i*4,none⟩),.agg #[.bool x.neg,.int .i64 x.exp,.slice aw lw cw,.slice ae le2 ce],.int .i64 (k:Int),.bool true,.bool false,.bool false,.slice (some ⟨b0,o0,none⟩) ms.length c,.int .i64 (i:Int),.pointer (some ⟨b0,o0+i*4,none⟩),.pointer (some ⟨b0,o0+i*4,none⟩),.pointer (some ⟨b0,o0+i*4+2,none⟩),.slice aw lw cw,.int .i64 (lw:Int),.bool false,.bool false,.bool false,.int .i64 (i:Int),.bool true,.bool true,.slice (some ⟨b0,o0,none⟩) ms.length c,.int .i64 (i:Int),.int .i64 (j:Int),.pointer (some ⟨b0,o0+j*4,none⟩),.pointer (some ⟨b0,o0+j*4+3,none⟩),.slice ae2 le2 ce2,.slice (some ⟨b0,o0,none⟩) ms.length c,.int .i64 (i:Int),.pointer (some ⟨b0,o0+i*4,none⟩),.pointer (some ⟨b0,o0+i*4+3,none⟩),.slice ae le2 ce,.int .i64 cv,.bool true,.bool true,.bool true] (Q13 [])) (Q08 (Q0e ((fun p hp=>by cases hp)))) (Q15 (by kernel_rfl)) (by kernel_rfl) (Q04 wr) ?_ ?_
    ·skip
     repeat' (first|exact Q83|refine Q82 ?_ ?_)
     all_goals
      refine Q1p rfl fun A W hW E0 hd hd=>?_;simp[Q72,Region.binds,Q13] at hd;have e0:=Q07 E0 0 (by kernel_rfl) rfl;have e5:=Q07 E0 5 (by kernel_rfl) rfl;have e1:=Q07 E0 1 (by kernel_rfl) rfl
      first
      |(refine Q12 rfl rfl ?_;simp[go_sem,hd,e0,e5,e1,G0,(HC.out W hW).1.c0,(HC.out W hW).1.c1,(HC.out W hW).1.c2,(HC.out W hW).1.c3,Xs,S2,hwj,hjl,(HC.out W hW).1.d3,HV1.out];done)
      |(refine Q2b rfl rfl ?_ ((HC.out W hW).2);simp[go_sem,hd];done)
      |(refine Q2b rfl rfl ?_ (((HC.out W hW).1.ord));simp[go_sem,hd];done)
    intro vs W1 R1 A3;have HB:=Ua R1;have e35:vs 35=.bool true:=(Q0j rfl).1 (A3 35 (by decide));simp only[Q0t,Act.put,Um,Ux,Ut,e35];clear R1 A3 e35
    go_wp2_with fail
    go_ret;refine ⟨Q0b.no (fun h=>?_) rfl,Below.next0 (Xo2 HA) HB.out⟩;have Q8:=h.2.2.2.2;rw[List.pairwise_iff_getElem] at Q8;have h1:=(Xo0 HY);have h1:=Q8 j i (by omega) F0 (by omega);have e1:=(Uh.1 (Xo1 HY)).2;have e2:=(Uh.1 (Xo3 HA)).2;rw[e1,e2,(Xe2 HY)] at h1;have h2:=HV.out;omega
  ·obtain rfl:i=ms.length:=(by omega);have G0:¬((ms.length:Int)<(ms.length:Int)):=(by omega);have A1:Q38 k ms:=⟨h1,h4,KX,fun m hm=>by
    obtain ⟨j,hj⟩:=US.1 hm;exact X1 j m (Uh.1 hj).1 hj,Q7n ms fun j p q hp hq=>t9 j p q (Uh.1 hq).1 hp hq⟩
   have HF:=Xh2 A1 Z0;clear A1 Z0 X1 t9
   go_wp2_with fail
   go_ret;exact ⟨Q0b.yes (Xo0 HF) rfl,(Xe1 HF)⟩
theorem Q6b [LT ZK] (a:OA) (n c:Nat) (F:List (List Q01)) (w:World) (h:Q1a w a n c F):
 Calls Tryz.prog 23 #[.slice a n c] w fun r w'=>Q0b (Q1u F) r/\Bw w w':=by
 have P2:=h.1;subst P2;have E3:=Uj h.2.1 h.2.2.1;have HM:=Ua h;clear h
 go_enter Tryz.func23,Tryz.ntmps23
 go_wp2_with fail
 go_loopw [3] (fun iv wr=>∃i:Nat,iv=.int .i64 (i:Int)/\i<=F.length/\i<=4/\(∀j ms,j<i->F[j]?=some ms->Q38 F.length ms)/\Bw w wr) (fun iv _=>4-(intOf iv).toNat)
 case atStart=>exact ⟨0,rfl,Uv _,by decide,fun j m h=>absurd h (Tf _),Ud _ _⟩
 case round=>
  obtain ⟨i,rfl,hi,hi4,X1,hb⟩:=hrel
  by_cases F0:i<F.length/\i<4
  ·obtain ⟨C6,Jj⟩:=F0;have G0:(i:Int)<(F.length:Int):=(by omega);have hlt4:(i:Int)<4:=(by omega);obtain ⟨ms,hm⟩:∃ms,F[i]?=some ms:=⟨_,Ub C6⟩;obtain ⟨b0,o0,rfl,Q0,J2⟩:∃b o,a=some ⟨b,o,none⟩/\b<wr.heap.size/\∀j ms,F[j]?=some ms->∃p l d,wr.cell? ⟨b,o+j,none⟩=some (.slice p l d)/\Q0k wr p l d ms:=by
    rcases (HM.out.step hb).2.2.2 with h0|h0
    ·rw[h0] at C6;simp at C6
    ·exact h0
   obtain ⟨p,l,d,Y4,V5⟩:=J2 i ms hm;have R9:=Qfy p l d ms F.length wr V5 E3;have HA:=Xh4 X1 hb hm R9;clear X1 hb hm R9 J2 V5
   by_cases hr:Q38 F.length ms
   ·have R9:Calls Tryz.prog 56 #[.slice p l d,.int .i64 (F.length:Int)] wr fun r w'=>r=.returned (.bool true)/\Bw wr w':=(Xe3 HA).mono (by
     rintro r w' ⟨⟨b,rfl,C3⟩,F3⟩;rw[C3.2 hr];exact ⟨rfl,F3⟩)
    have HR:=Xh2 R9 hr;clear R9 hr
    go_wp2_with (go_at_call 56;refine (Xo0 HR).mono ?_;rintro r w1 ⟨rfl,C0⟩;have I0:=Ua C0;clear C0)
    refine ⟨⟨i+1,congrArg (Value.int .i64) (by omega),by omega,by omega,fun j x hj hx=>?_,Below.next0 (Xo1 HA) I0.out⟩,by simp only[intOf];omega⟩
    by_cases hji:j=i
    ·subst hji;have:=(Xo2 HA);rw[hx] at this;injection this with this;rw[this];exact (Xe1 HR)
    ·exact (Xo0 HA) j x (by omega) hx
   ·have R9:Calls Tryz.prog 56 #[.slice p l d,.int .i64 (F.length:Int)] wr fun r w'=>r=.returned (.bool false)/\Bw wr w':=(Xe3 HA).mono (by
     rintro r w' ⟨⟨b,rfl,C3⟩,F3⟩;cases b
     ·exact ⟨rfl,F3⟩
     ·exact absurd (C3.1 rfl) hr)
    have C4:¬Q1u F:=fun h=>hr (h.2.2 ms (Ug (Xo2 HA)));have HR:=Xh2 R9 C4;clear R9 hr C4
    go_wp2_with (go_at_call 56;refine (Xo0 HR).mono ?_;rintro r w1 ⟨rfl,C0⟩;have I0:=Ua C0;clear C0)
    go_ret;exact ⟨Q0b.no (Xe1 HR) rfl,Below.next0 (Xo1 HA) I0.out⟩
  ·have HF:=Xh3 hb X1 F0;clear hb X1 F0
   by_cases C6:i<F.length
   ·have h4:¬(i:Int)<4:=(by have:=(Xe2 HF);omega);have hl1':(i:Int)<(F.length:Int):=(by omega);have k4:¬(F.length:Int)<=4:=(by omega);have k1:(0:Int)<(F.length:Int):=by omega
    go_wp2_with fail
    go_ret;exact ⟨Q0b.no (fun h=>by have:=h.2.1;have:=(Xe2 HF);omega) rfl,(Xo0 HF)⟩
   ·have p8:i=F.length:=(by omega);have hl1':¬(i:Int)<(F.length:Int):=(by omega);have k4:(F.length:Int)<=4:=(by omega);have HE:=Ua p8;clear p8
    by_cases h0:F.length=0
    ·have k0:¬(0:Int)<(F.length:Int):=(by omega);have HZ:=Ua h0;clear h0
     go_wp2_with fail
     go_ret;exact ⟨Q0b.no (fun h=>by have:=h.1;have:=HZ.out;omega) rfl,(Xo0 HF)⟩
    ·have k0:(0:Int)<(F.length:Int):=(by omega);have HZ:=Ua h0;clear h0
     go_wp2_with fail
     go_ret;refine ⟨Q0b.yes ⟨by have:=HZ.out;omega,by omega,fun ms hm=>?_⟩ rfl,(Xo0 HF)⟩;obtain ⟨j,hj⟩:=US.1 hm;exact (Xo1 HF) j ms (by have:=(Uh.1 hj).1;have:=HE.out;omega) hj
end Go.Proofs.YtidojbkhlenahaaGreatDoor
