/- Part 25 of the proof of LawParseBuilt: ParseP, FmtU, Builder, DigC. Condition: as each theorem says; none at the end. -/
import Derived.Lib.Walk
import Derived.Lib.AppendIntMem
import Derived.BigCall
import Derived.BigGuard
import Derived.WalkSmall
import Derived.Lib.Builder
import Derived.Lib.AppendStr
import Derived.Lib.UnsafeStr
import Derived.Laws.Externs
import Derived.Test.YtdilmfakkppgpaaGreatDoorPkParseBuilt24
set_option maxRecDepth 100000
set_option maxHeartbeats 16000000
namespace Go.Proofs.YtdilmfakkppgpaaGreatDoor
open Go.RowKit WordsM
theorem Qag:(Tryz.prog.info? 25).map (fun i=>(i.zero,i.size,i.bytes))=some (some (.slice none 0 0),1,24):=by kernel_rfl
def Sl (v:Value):Prop:=∃a n c,v=.slice a n c
theorem Q08.kept {w w':World} {a:OA} {n c:Nat} {ms:List Q01} (h:Q08 w a n c ms) (row:Option Nat) (hg:w.grownBy w' row) (hs:∀g,row=some g->∀o v,w.cell? ⟨g,o,none⟩=some v->Sl v):Q08 w' a n c ms:=by
 have hk:∀(b o:Nat) (v:Value),b<w.heap.size->w.cell? ⟨b,o,none⟩=some v->¬Sl v->w'.heap[b]?=w.heap[b]?:=fun b o v hb hc hn=>hg.block b hb (fun e=>hn (hs b e.symm o v hc));obtain ⟨h1,h2,h3,h4⟩:=h;refine ⟨h1,h2,h3,?_⟩;rcases h4 with h4|⟨b,o,h5,h6,h7⟩
 ·exact .inl h4
 ·refine .inr ⟨b,o,h5,Ue h6 hg.size,fun j m hm=>?_⟩;obtain ⟨aw,lw,cw,ae,le,ce,q0,q1,q2,q3,hw,hi,hx⟩:=h7 j m hm;have hb:=hk b _ _ h6 q0 (fun ⟨_,_,_,e⟩=>by cases e);have hc:∀o,w'.cell? ⟨b,o,none⟩=w.cell? ⟨b,o,none⟩:=fun o=>Td (a:=⟨b,o,none⟩) hb;refine ⟨aw,lw,cw,ae,le,ce,(hc _).trans q0,(hc _).trans q1,(hc _).trans q2,(hc _).trans q3,⟨hw.len,hw.cap,hw.most,hw.low,?_⟩,⟨hi.len,hi.cap,hi.most,hi.rng,?_⟩,hx⟩
  ·rcases hw.rd with h0|⟨bb,oo,e,E3,Y2⟩
   ·exact .inl h0
   ·exact .inr ⟨bb,oo,e,Ue E3 hg.size,fun i x hx=>(Td (a:=⟨bb,oo+i,none⟩) (hk bb _ _ E3 (Y2 i x hx) (fun ⟨_,_,_,e⟩=>by cases e))).trans (Y2 i x hx)⟩
  ·rcases hi.rd with h0|⟨bb,oo,e,E3,Y2⟩
   ·exact .inl h0
   ·exact .inr ⟨bb,oo,e,Ue E3 hg.size,fun i x hx=>(Td (a:=⟨bb,oo+i,none⟩) (hk bb _ _ E3 (Y2 i x hx) (fun ⟨_,_,_,e⟩=>by cases e))).trans (Y2 i x hx)⟩
theorem Q3d.sl {w:World} {B:Nat} {e:TypeId} {k n c:Nat} {a:OA} {xs:LV} (h:Q3d Sl w B e k a n c xs):∀g,a.map (·.block)=some g->∀o v,w.cell? ⟨g,o,none⟩=some v->Sl v:=by
 intro g hg o v hv;rcases h.1.form with ⟨h0,_⟩|⟨g',cur,rfl,_,_,hh,_⟩
 ·rw[h0] at hg;cases hg
 ·simp only[UM,Un] at hg;subst hg;rw[Ux _ _ _ _ _ _ hh] at hv;exact h.2 g' cur _ _ rfl hh v (Xbo.2 (Array.mem_of_getElem? hv))
theorem Q5i.get {w:World} {g:Nat}:∀{l:List (Nat × Ex)} {o i p:Nat} {x:Ex},Q5i w g o l->l[i]?=some (p,x)->w.cell? ⟨g,o+i*2,none⟩=some (.int .i64 (p:Int))/\∃u,w.cell? ⟨g,o+i*2+1,none⟩=some u/\Q2v (fun _=>False) w x u
 |[],_,_,_,_,_,hi=>by simp at hi
 |(p0,x0)::r,o,0,p,x,h,hi=>by
  simp only[UI,Un,Xbw] at hi;obtain ⟨rfl,rfl⟩:=hi;exact ⟨h.1,h.2.1⟩
 |(p0,x0)::r,o,i+1,p,x,h,hi=>by
  have:=Q5i.get (i:=i) h.2.2 (by simpa using hi);rwa[show o+2+i*2=o+(i+1)*2 by omega] at this
def Qmi:Except Nat (List (Nat × Ex))->Except (Nat × Int) (List (List Q0a))
 | .error p=>.error (p,5)
 | .ok l=>Q30 l.length l []
theorem Qav (s:LU):Q4d s=Qmi (Q3c s (min (s.count 10) 4) 4 0 []):=by
 unfold Q4d;cases Q3c s (min (s.count 10) 4) 4 0 [] <;> rfl
def Q4w (w:World) (X:Except (Nat × Int) (List (List Q0a))) (r:Ending) (w':World):Prop:=Bw w w'/\match X with
 | .error (p,e)=>r=.returned (.tuple #[.slice none 0 0,.int .i64 (p:Int),.int .i64 e])
 | .ok F=>∃a n c Fv,r=.returned (.tuple #[.slice a n c,.int .i64 0,.int .i64 0])/\Q2t w' a n c Fv/\Fv.map (List.map Q01.term)=F/\Q5d Fv
theorem Q4w.err {w w':World} {X:Except (Nat × Int) (List (List Q0a))} {p:Nat} {e:Int} (hX:X=.error (p,e)) (hb:Bw w w'):Q4w w X (.returned (.tuple #[.slice none 0 0,.int .i64 (p:Int),.int .i64 e])) w':=⟨hb,by rw[hX]⟩
def Q9k (w:World) (X:Except (Nat × Int) (List (List Q0a))) (r:Ending) (w':World):Prop:=Q4w w X r w'/\∀b o n c p e,r=.returned (.tuple #[.slice (some ⟨b,o,none⟩) n c,p,e])->w.heap.size<=b
theorem Q9k.err {w w':World} {X:Except (Nat × Int) (List (List Q0a))} {p:Nat} {e:Int} (hX:X=.error (p,e)) (hb:Bw w w'):Q9k w X (.returned (.tuple #[.slice none 0 0,.int .i64 (p:Int),.int .i64 e])) w':=⟨Q4w.err hX hb,fun _ _ _ _ _ _ h=>by simp at h⟩
def Qi6 (w:World) (k:Nat) (l:List (Nat × Ex)) (s8 s24:Value) (wx:World):Prop:=∃(i:Nat) (a:OA) (c:Nat) (Fv:List (List Q01)) (vs:LV),s8=.slice a i c/\s24=.int .i64 (i:Int)/\i<=l.length/\Fv.length=i/\Q3d Sl wx w.heap.size 25 1 a i c vs/\
 (∀(j:Nat) (ms:List Q01),Fv[j]?=some ms->∃(p:OA) (n d:Nat),vs[j]?=some (Value.slice p n d)/\Q08 wx p n d ms/\Q0z k ms)/\Q30 k l []=Q30 k (l.drop i) (Fv.map (List.map Q01.term))/\Bw w wx
theorem Qi6.done {w wx:World} {k i c:Nat} {a:OA} {Fv:List (List Q01)} {vs:LV} (hl:Fv.length=i) (hr:Q3d Sl wx w.heap.size 25 1 a i c vs) (R1:∀(j:Nat) (ms:List Q01),Fv[j]?=some ms->∃(p:OA) (n d:Nat),vs[j]?=some (Value.slice p n d)/\Q08 wx p n d ms/\Q0z k ms):Q2t wx a i c Fv:=by
 have V3:=hr.1.cap;refine ⟨hl,V3.1,Ur V3.2 Qcs,?_⟩;rcases hr.1.form with ⟨_,h0,_⟩|⟨g,cur,rfl,_,B0,_⟩
 ·exact .inl (Tg (by omega))
 ·refine .inr ⟨g,0,rfl,B0,fun j ms hm=>?_⟩;obtain ⟨p,n,d,h1,h2,_⟩:=R1 j ms hm;obtain ⟨g',e,_,_,h3⟩:=hr.1.at_ h1;injection e with e;injection e with e;subst e;exact ⟨p,n,d,by rw[UB];exact h3,h2⟩
theorem Qdh (s:ByteArray) (w:World) (hs:s.size<=1000000) (hT:Q2n w):
 Calls Tryz.prog 17 #[.string s] w (Q9k w (Q4d s.data.toList)):=by
 obtain ⟨i0,O1,P1,K1,J1⟩:=Q0l Qag;have HI:=Xh4 O1 P1 K1 J1;clear O1 P1 K1 J1;have Z2:=Qrl s w hs hT;obtain ⟨Y,hY⟩:∃Y,Q3c s.data.toList (min (s.data.toList.count 10) 4) 4 0 []=Y:=⟨_,rfl⟩;rw[hY] at Z2;obtain ⟨X,hX⟩:∃X,Q4d s.data.toList=X:=⟨_,rfl⟩;rw[hX];have hXY:X=Qmi Y:=by rw[<-hX,Qav,hY]
 have V9:∀l,Y=.ok l->1<=l.length/\l.length<=4/\∀z∈l,Q32 l.length z.2:=fun l h=>Qe4 (by rw[hY];exact h);have H:=Xh4 Z2 hXY V9 hT;clear Z2 hXY V9 hT hX hY
 go_enter Tryz.func17,Tryz.ntmps17
 cases Y with
 |error q=>
  have G8:X=.error (q,5):=(Xo1 H);have HX:=Ua G8;clear G8
  go_wp2_with (go_at_call_of 43 (Value.string s);refine (Xo0 H).mono ?_;rintro r w1 ⟨a1,n1,c1,p1,b1,rfl,C0,rfl,rfl⟩;have H1:=Ua C0;clear C0)
  exact ⟨rfl,.tuple #[.slice none 0 0,.int .i64 (q:Int),.int .i64 5],by simp[results,go_sem],Q9k.err HX.out H1.out⟩
 |ok l=>
  obtain ⟨k,hk⟩:∃k,l.length=k:=⟨_,rfl⟩;obtain ⟨Z3,Y4,J9⟩:=(Xo2 H) l rfl;have hXl:X=Q30 l.length l []:=(Xo1 H);rw[hk] at Z3 Y4 J9 hXl;have HX:=Xh3 hXl J9 hk;clear hXl J9 hk
  go_wp2_with (go_at_call_of 43 (Value.string s);refine (Xo0 H).mono ?_;rintro r w1 ⟨a1,n1,c1,p1,b1,rfl,C0,rfl,g1,rfl,B7,p6,N1,E1,hla⟩;obtain rfl:n1=k:=p6.trans (Xe2 HX);have H1:=Xh5 C0 B7 N1 E1 hla;clear C0 B7 p6 N1 E1 hla)
  rename World=>wl
  go_loopw [8,24] (fun s8 s24 wr=>Qi6 wl n1 l s8 s24 wr) (fun _ iv _=>n1-(intOf iv).toNat)
  case atStart=>exact ⟨0,none,0,[],[],rfl,rfl,Uu _,rfl,Q3d.nil_ _ _ _ _ _,(fun j ms h=>by simp at h),rfl,Uf _ _⟩
  case round=>
   obtain ⟨i,a1,c1,Fv,vs,rfl,rfl,hi,Yw,I0,R1,O4,Q0⟩:=hrel
   by_cases B0:i<l.length
   ·have R0:=(Xe2 HX);have E0:(i:Int)<(n1:Int):=(by omega);obtain ⟨px,Wb⟩:∃px,l[i]?=some px:=⟨_,Ub B0⟩;obtain ⟨p,x⟩:=px;obtain ⟨q0,u,q1,hu⟩:=(Xe4 H1).get Wb;obtain ⟨t0,u0,rfl⟩:=hu.face;rw[UB] at q0 q1;have q0:=(Q0.cell (p:=⟨g1,i*2,none⟩) (Xo1 H1)).trans q0;have q1:=(Q0.cell (p:=⟨g1,i*2+1,none⟩) (Xo1 H1)).trans q1;have hgx:Q32 n1 x:=(Xo1 HX) _ (Ud Wb);have E3:Bw wr (wr.alloc (.cells #[.int .i64 (p:Int),.iface t0 u0] 84)):=Ba;have hh:=Ul wr (.cells #[.int .i64 (p:Int),.iface t0 u0] 84);have m0:(wr.alloc (.cells #[.int .i64 (p:Int),.iface t0 u0] 84)).cell? ⟨wr.heap.size,0,none⟩=some (.int .i64 (p:Int)):=(by rw[Ux _ _ _ _ _ _ hh];rfl);have m1:(wr.alloc (.cells #[.int .i64 (p:Int),.iface t0 u0] 84)).cell? ⟨wr.heap.size,1,none⟩=some (.iface t0 u0):=(by rw[Ux _ _ _ _ _ _ hh];rfl);have C2:=Below.next0 Q0 E3;have N0:=Below.next0 (Xo0 H1) C2;have C5:=Qmh n1 Z3 Y4 x hgx _ _ (hu.step' C2) ((Xe3 H).step N0);obtain ⟨Z,hZ⟩:∃Z,Q16 n1 x=Z:=⟨_,rfl⟩;rw[hZ] at C5;have Z9:=Q0r wr (.cells #[.int .i64 (p:Int),.iface t0 u0] 84);have XI:=O4;rw[Qbk Wb,Q30,hZ] at XI;have HR:=Xh11 Yw I0 R1 XI Q0 C2 N0 C5 Z9 E3 hZ;clear Yw I0 R1 O4 XI Q0 C2 N0 C5 Z9 E3 hgx hu Wb hh hZ;cases Z with
    |error er=>
     have WH:(er==0)=false:=beq_eq_false_iff_ne.2 (Q4i n1 x er (Xe10 HR));have G8:X=.error (p,er):=(by rw[(Xo0 HX),(Xo3 HR)]);have HX5:=Ua G8;clear G8
     go_wp2_with (go_at_call_of 44 (Value.agg #[.int .i64 (n1:Int)]);refine (Xo7 HR).mono ?_;rintro r w3 ⟨G0,a3,l3,c3,rfl⟩;(have m0:=(G0.cell (p:=⟨wr.heap.size,0,none⟩) (Xo8 HR)).trans m0);have H3:=Ua G0;clear G0)
     go_quiet (fail)
     go_wp2_with fail
     exact ⟨rfl,.tuple #[.slice none 0 0,.int .i64 (p:Int),.int .i64 er],by simp[results,go_sem],Q9k.err HX5.out (Below.drewN' (Below.next0 (Xo6 HR) H3.out) _)⟩
    |ok P=>
     go_upto_region 11 with (go_at_call_of 44 (Value.agg #[.int .i64 (n1:Int)]);refine (Xo7 HR).mono ?_;rintro r w3 ⟨G0,a3,l3,c3,ms3,rfl,U8,T5,r6⟩;have H3:=Xh4 G0 U8 T5 r6;clear G0 U8 T5 r6)
     obtain ⟨O1,P1,K1,J1⟩:=HI.out;have VK:=Below.next0 (Xo9 HR) (Xo0 H3);have QS:=Below.next0 (Xo5 HR) (Xo0 H3);have Y7:=(Xo1 HR).step VK;have Q9:=QS.alloc QS.size (.cells #[.slice a3 l3 c3] 25);obtain ⟨g6,c6,w6,R3,M1,D1,F5⟩:=Q12 (P:=Tryz.prog) Sl (w3.alloc (.cells #[.slice a3 l3 c3] 25)) 22 22 25 i0 _ 1 24 Tryz.underlying22 O1 P1 K1 J1 rfl (by intro u hu;simp[Value.cells] at hu;subst hu;exact ⟨_,_,_,rfl⟩) wl.heap.size Q9.size a1 i c1 vs (Y7.step (Ba)) w3.heap.size 1 1 [.slice a3 l3 c3] rfl (TA (cs:= #[.slice a3 l3 c3]) (Ul _ _)) (by simp[Value.oneCell']) (by intro u hu;simp at hu;subst hu;exact ⟨_,_,_,rfl⟩) (by decide) (by omega) (by decide) (by decide);have HV:=Xh7 VK QS Y7 Q9 M1 D1 F5;clear VK QS Y7 Q9 M1 D1 F5 O1 P1 K1 J1
     go_wp2_with (at_builtin;refine Q07 rfl (.tmp 42) (.tmp 44) 22 22 rfl _ _ rfl rfl _ _ R3 ?_)
     obtain ⟨VK,QS,Y7,Q9,M1,D1,F5⟩:=HV.out;have D8:=Y7.step ((Uf _ _).alloc (Ug _) (.cells #[.slice a3 l3 c3] 25));have U2:Bw wl w6:=Q9.trans ⟨D1.os,D1.tape,D1.output,D1.size,fun z hz=>D1.block z (Ue hz Q9.size) (fun e=>by
      have:=D8.1.row_le z e.symm;omega)⟩
     have ZQ:∀{a:OA} {n c:Nat} {ms:List Q01},Q08 w3 a n c ms->Q08 w6 a n c ms:=fun h=>(h.step ((Uf _ _).alloc (Ug _) (.cells #[.slice a3 l3 c3] 25))).kept _ D1 D8.sl;refine ⟨⟨i+1,_,c6,Fv++[ms3],vs++[.slice a3 l3 c3],rfl,congrArg (Value.int .i64) (by omega),B0,by rw[Uj,(Xo0 HR)];rfl,M1,fun j ms hj=>?_,?_,U2⟩,by simp only[intOf];omega⟩
     ·have Jt:vs.length=i:=by have:=(Xo1 HR).1.len;omega
      by_cases R6:j<i
      ·rw[Tx (by rw[(Xo0 HR)];exact R6)] at hj;obtain ⟨p',n',d',g1',g2',g3'⟩:=(Xo2 HR) j ms hj;exact ⟨p',n',d',by rw[Tx (by omega)];exact g1',ZQ (g2'.step VK),g3'⟩
      ·rw[Tq (by rw[(Xo0 HR)];omega),(Xo0 HR)] at hj;have hj0:j-i=0:=by
        have:=(Um.1 hj).1;simp at this;omega
       rw[hj0] at hj;simp only[UI,Un] at hj;subst hj;exact ⟨a3,l3,c3,by rw[Tq (by omega),Jt,hj0];rfl,ZQ (Xo1 H3),(Xe3 H3)⟩
     ·rw[(Xo3 HR),UP,<-(Xo2 H3)];rfl
   ·have R0:=(Xe2 HX);have E0:¬((i:Int)<(n1:Int)):=(by omega);have A6:i=l.length:=(by omega);rw[A6,List.drop_length,Q30] at O4;have HS:=Xh5 Yw I0 R1 O4 Q0;have JR:i=n1:=(by omega);have HN:=Ua JR;clear JR;clear Yw I0 R1 O4 Q0 A6 R0
    go_wp2_with fail
    refine ⟨rfl,.tuple #[.slice a1 i c1,.int .i64 0,.int .i64 0],by simp[results,go_sem],⟨Below.next0 (Xo0 H1) (Xe4 HS),?_⟩,fun b o n c p e h=>?_⟩
    rotate_left
    ·simp only[Ending.returned.injEq,Value.tuple.injEq] at h;have h1:=congrArg (fun z=>z[0]?) h;simp at h1;obtain ⟨rfl,_,_⟩:=h1;have h2:=(Xo0 H1).size;rcases (Xo1 HS).1.form with ⟨h3,_⟩|⟨g,cur,h3,h4,_⟩
     ·cases h3
     ·cases h3;omega
    rw[(Xo0 HX),(Xo3 HS)];refine ⟨a1,i,c1,Fv,rfl,Qi6.done (Xo0 HS) (Xo1 HS) (Xo2 HS),rfl,?_⟩;rw[Q5d,(Xo0 HS),HN.out];refine ⟨Z3,Y4,fun ms hm=>?_⟩;obtain ⟨j,hj,rfl⟩:=Xay hm;obtain ⟨_,_,_,_,_,h⟩:=(Xo2 HS) j _ (Ub hj);exact h
theorem Q63 (s:ByteArray) (w:World) (hs:s.size<=1000000) (hT:Q2n w):
 Calls Tryz.prog 17 #[.string s] w (Q4w w (Q4d s.data.toList)):=(Qdh s w hs hT).mono fun _ _ h=>h.1
end Go.Proofs.YtdilmfakkppgpaaGreatDoor
namespace Go.Proofs.YtdilmfakkppgpaaGreatDoor
open Go.RowKit Go.Shelf Go.Sort Go.Lib
theorem Qah {w:World} (k:Nat) (os:Array Obj):Bw w (grow (w.drewN k) os):=
 ⟨rfl,rfl,rfl,by
   show w.heap.size<=(w.heap++os).size
   simp,fun g hg=>heap_grow_old w k os g hg⟩
theorem Qwr (u:Nat) (XV:u<18446744073709551616) (w:World) (t7:Lib.TabIs Tryz.prog w "internal/strconv.uint64pow10" .u64 Lib.pow10Tab):
 Calls Tryz.prog 181 #[.int .u64 (u:Int),.int .i64 10] w fun e w'=>e=.returned (.string ⟨(Lib.decDigits u).toArray⟩)/\Bw w w':=by
 by_cases hi:u<100
 ·have hiI:(u:Int)<100:=by omega
  have P8:=fun W=>Tryz.Qzz u hi W
  go_enter Tryz.func181,Tryz.ntmps181
  go_wp2_with (refine (P8 _).mono ?_;rintro e w' ⟨rfl,rfl⟩)
  go_ret;exact ⟨rfl,Uf _ _⟩
 ·have hiI:¬(u:Int)<100:=by omega
  have hu1:1<=u:=by omega
  have hnd20:Lib.nDigits u<=20:=by have:=Lib.numDigits_eq u hu1 XV;split at this <;> omega
  have T4:Tryz.prog.arrayLen 209=24:=by kernel_rfl
  have hel:Tryz.prog.elem 209=5:=by kernel_rfl
  have hsl1:∀W,(Instr.sliceAt 209 (.pointer (some ⟨w.heap.size,0,none⟩)) none (some (.int .i64 (Lib.nDigits u:Int))) none).run Tryz.prog W=.ok (.slice (some ⟨w.heap.size,0,none⟩) (Lib.nDigits u) 24) W:=fun W=>by
   rw[run_sliceAt_array_h W 209 ⟨w.heap.size,0,none⟩ (by kernel_rfl) .i64 (Lib.nDigits u:Int) (by omega) (by rw[T4];omega)]
   go_simp
   try omega
  have hH0:=Lib.holds_zero0 w 209 (Lib.nDigits u) (by omega);have hfmt:=Tryz.J05 w.heap.size 0 24 u (Array.replicate (Lib.nDigits u) 0) (w.alloc (.cells Lib.zeros24 209)) hH0 (by rw[Array.size_replicate];exact Lib.lt_pow_nDigits u) XV (by rw[Array.size_replicate];omega);rw[Array.size_replicate] at hfmt;have X1:=Tryz.J02 u hu1 XV (w.alloc (.cells Lib.zeros24 209)) (Lib.tabIs_alloc t7 _);have HH0:=Ua hH0;clear hH0 T4 hel
  go_enter Tryz.func181,Tryz.ntmps181
  go_wp2_with (first
   |(refine X1.mono ?_;rintro e w' ⟨rfl,rfl⟩)
   |(refine hfmt.mono ?_;rintro e w' ⟨rfl,k,v',dk,rfl,hF⟩;
     have Qu:(convert 33 9 (.slice (some ⟨w.heap.size,0,none⟩) (Lib.nDigits u) 24)).run Tryz.prog ((putRow (fun (b:UInt8)=>Value.int .u8 (b.toNat:Int)) (w.alloc (.cells Lib.zeros24 209)) w.heap.size 0 dk).drewN k)=.ok (.string ⟨(Lib.decDigits u).toArray⟩) ((putRow (fun (b:UInt8)=>Value.int .u8 (b.toNat:Int)) (w.alloc (.cells Lib.zeros24 209)) w.heap.size 0 dk).drewN k):=by {
      have h:=run_convert_bytes_back (P:=Tryz.prog) ((putRow (fun (b:UInt8)=>Value.int .u8 (b.toNat:Int)) (w.alloc (.cells Lib.zeros24 209)) w.heap.size 0 dk).drewN k) 33 9 5 ⟨w.heap.size,0,none⟩ 24 (Lib.decDigits u) (by kernel_rfl) (by kernel_rfl) (by kernel_rfl) (fun j hj=>by
       rw[Lib.row_is_numeral hF j hj,Lib.add_plain,World.cell?_drewN];exact cell?_putRow (fun (b:UInt8)=>Value.int .u8 (b.toNat:Int)) _ w.heap.size 0 _ dk HH0.out (by rw[hF.size,Array.size_replicate]) j (by rw[hF.size];rw[Lib.decDigits_length] at hj;exact hj))
      rw[Lib.decDigits_length] at h;exact h };
     obtain ⟨os,eo⟩:=Lib.fin_at w (.cells Lib.zeros24 209) dk k 0;have HEO:=Xh2 eo hF;clear eo hF hfmt X1;generalize ((putRow (fun (b:UInt8)=>Value.int .u8 (b.toNat:Int)) (w.alloc (.cells Lib.zeros24 209)) w.heap.size 0 dk).drewN k)=W4 at*))
  go_ret;refine ⟨rfl,?_⟩;rw[(Xo0 HEO)];exact Qah k os
theorem Qbl (u:Nat) (XV:u<18446744073709551616) (w:World) (t7:Lib.TabIs Tryz.prog w "internal/strconv.uint64pow10" .u64 Lib.pow10Tab):
 Calls Tryz.prog 154 #[.int .u64 (u:Int),.int .i64 10] w fun e w'=>e=.returned (.string ⟨(Lib.decDigits u).toArray⟩)/\Bw w w':=by
 have h:=Qwr u XV w t7
 go_enter Tryz.func154,Tryz.ntmps154
 go_wp2_with (refine h.mono ?_;rintro e w1 ⟨rfl,hb⟩;have HB:=Ua hb;clear hb)
 go_ret;exact ⟨rfl,HB.out⟩
end Go.Proofs.YtdilmfakkppgpaaGreatDoor
namespace Go.Proofs.YtdilmfakkppgpaaGreatDoor
open Go.RowKit
theorem Qaw:(Tryz.prog.info? 66).map (·.size)=some 2:=by kernel_rfl
theorem Qi7:liesAt Tryz.prog Tryz.prog.depth 66 (2 / Tryz.prog.cellsOf 66) 0 66 1=true:=by kernel_rfl
abbrev Q3i (B b:Nat) (p:Value) (l:LU) (w:World):Prop:=Lib.BuilderAt 66 5 B b p (Lib.byteCells l) w
theorem Qi8 (b:Nat) (w:World) (h0:w.cell? ⟨b,0,none⟩=some (.pointer (some ⟨b,0,none⟩))):
 Calls Tryz.prog 66 #[.pointer (some ⟨b,0,none⟩)] w fun e w'=>e=.returned (.tuple #[])/\w=w':=by
 obtain ⟨j,hj,_⟩:=Option.map_eq_some_iff.1 Qaw
 go_enter Tryz.func66,Tryz.ntmps66
 go_wp2_with fail
 rw[Lib.run_neq_ptr_same w _ Tryz.underlying64 hj]
 go_wp2_with fail
 go_end0
 exact ⟨rfl,rfl⟩
theorem Qef (b:Nat) (w:World) (h0:w.cell? ⟨b,0,none⟩=some (.pointer none)) (ZK:w.shape? b=some (66,2)) (Zv:w.frozen? ⟨b,0,none⟩=false):
 Calls Tryz.prog 66 #[.pointer (some ⟨b,0,none⟩)] w fun e w'=>e=.returned (.tuple #[])/\w'=w.setCell ⟨b,0,none⟩ (.pointer (some ⟨b,0,none⟩)):=by
 obtain ⟨j,hj,hjs⟩:=Option.map_eq_some_iff.1 Qaw
 go_enter Tryz.func66,Tryz.ntmps66
 go_wp2_with fail
 rw[Lib.run_to_unsafe w ⟨b,0,none⟩ Tryz.underlying64 Tryz.underlying161 hj (by rw[hjs];decide) ZK (Nat.zero_lt_succ 1)];simp only[Result.andThen];rw[Oper.upon_value]
 go_wp2_with fail
 rw[run_callFunc_extern Tryz.func110 (by kernel_rfl) (by kernel_rfl) (by kernel_rfl) (e:=Extern.AbiNoEscape.same) (by kernel_rfl)];rw[Lib.run_noEscape];simp only[Result.andThen];rw[Oper.upon_value]
 go_wp2_with fail
 rw[Lib.run_from_unsafe w ⟨b,0,none⟩ Tryz.underlying161 Tryz.underlying64 hj ZK Qi7];simp only[Result.andThen];rw[Oper.upon_value]
 go_wp2_with fail
 go_end0
 exact ⟨rfl,rfl⟩
theorem Qud (B b:Nat) (l:LU) (w:World) (h:Lib.IsBuilder 66 5 B b (Lib.byteCells l) w):
 Calls Tryz.prog 66 #[.pointer (some ⟨b,0,none⟩)] w fun e w'=>e=.returned (.tuple #[])/\Q3i B b (.pointer (some ⟨b,0,none⟩)) l w'/\Below B w w'/\w'.heap.size=w.heap.size:=by
 rcases h with h|h
 ·refine (Qef b w h.cell0 h.shape h.frozen0).mono ?_;rintro e w' ⟨rfl,rfl⟩;exact ⟨rfl,h.used _,(Uf B w).setCell (p:=⟨b,0,none⟩) h.1 _,by simp⟩
 ·refine (Qi8 b w h.cell0).mono ?_;rintro e w' ⟨rfl,rfl⟩;exact ⟨rfl,h,Uf B _,rfl⟩
theorem Q9l (a b:LU):Lib.byteCells (a++b)=Lib.byteCells a++Lib.byteCells b:=by simp[Lib.byteCells]
theorem Qrt (B b:Nat) (l t:LU) (w:World) (h:Lib.IsBuilder 66 5 B b (Lib.byteCells l) w) (R0:l.length+t.length<=140737488355328) (hBw:B<=w.heap.size):
 Calls Tryz.prog 31 #[.pointer (some ⟨b,0,none⟩),sv t] w fun e w'=>e=.returned (.tuple #[.int .i64 (t.length:Int),.nilIface])/\Q3i B b (.pointer (some ⟨b,0,none⟩)) (l++t) w'/\Below B w w':=by
 obtain ⟨i0,hi,P1,K1,J1⟩:=Xby Qp2;have HI:=Ua h;clear h
 go_enter Tryz.func31,Tryz.ntmps31
 go_wp2_with (refine (Qud B b l _ HI.out).mono ?_)
 rintro e w1 ⟨rfl,h1,C0,Z1⟩;obtain ⟨hB,v,I7,G5,C1⟩:=h1;have hsz1:B<=w1.heap.size:=by omega
 have HSZ:=Ua Z1;clear Z1;have c0:w1.cell? ⟨b,0,none⟩=some (.pointer (some ⟨b,0,none⟩)):=by rw[Lib.cell_of_heap I7];rfl
 have c1:w1.cell? ⟨b,1,none⟩=some v:=by rw[Lib.cell_of_heap I7];rfl
 have B0:b<w1.heap.size:=(Uv.1 I7).1;have HBK:=Ua I7;have O3:(Lib.byteCells l).length+(⟨t.toArray⟩:ByteArray).size<=140737488355328:=by rw[Lib.byteCells_length];exact R0
 have E4:(Lib.byteCells l).length+(⟨t.toArray⟩:ByteArray).size<=maxLen:=by unfold maxLen;omega
 clear I7
 go_wp2_with (at_builtin;refine Lib.wpList_append_own_string _ rfl _ _ 33 9 rfl B 5 i0 Tryz.underlying33 Tryz.underlying9 hi P1 K1 J1 _ _ _ rfl G5 ⟨t.toArray⟩ rfl E4 O3 hsz1 ?_)
 intro v' w2 N7 D4 _;have D0:w2.heap[b]?=some (.cells #[.pointer (some ⟨b,0,none⟩),v] 66 (0,0)):=by
  rw[D4.block b B0 (fun e=>C1 e.symm)];exact HBK.out
 have d0:w2.cell? ⟨b,0,none⟩=some (.pointer (some ⟨b,0,none⟩)):=by rw[Lib.cell_of_heap D0];rfl
 have d1:w2.cell? ⟨b,1,none⟩=some v:=by rw[Lib.cell_of_heap D0];rfl
 have f1:w2.frozen? ⟨b,1,none⟩=false:=Lib.frozen_of_heap D0 1;obtain ⟨ao,n',cap,rfl⟩:∃ao n' cap,v'=.slice ao n' cap:=by
  rcases N7.2 with ⟨hv,_⟩|⟨g,cap,cur,hv,_⟩
  ·exact ⟨_,_,_,hv⟩
  ·exact ⟨_,_,_,hv⟩
 have HE:=Xh4 D0 N7 D4 C0;clear D0 N7 D4 C0 O3 E4
 go_wp2_with fail
 go_ret2
 obtain ⟨D0,N7,D4,C0⟩:=HE.out;refine ⟨rfl,?_,?_⟩
 ·refine Lib.BuilderAt.put (T:=66) (e:=5) hB D0 (bs':=Lib.byteCells (l++t)) ?_ (by decide);rw[Q9l];have e1:Lib.strCells ⟨t.toArray⟩=Lib.byteCells t:=rfl;rw[<-e1,Uj,Lib.strCells_length];exact N7
 ·exact (C0.grown D4 (by omega) (fun k hk=>(G5.lt k hk).1)).setCell (p:=⟨b,1,none⟩) hB _
theorem Q3i.call {B b:Nat} {p:Value} {l:LU} {w w':World} (h:Q3i B b p l w) (hb:Bw w w'):Q3i B b p l w':=by
 obtain ⟨hB,v,I7,G5,C1⟩:=h;refine ⟨hB,v,(hb.block _ (Uv.1 I7).1).trans I7,⟨G5.1,?_⟩,C1⟩;rcases G5.2 with h2|⟨g,cap,cur,hv,hg,hh,hr⟩
 ·exact .inl h2
 ·exact .inr ⟨g,cap,cur,hv,hg,(hb.block g (Uv.1 hh).1).trans hh,hr⟩
def Qb7 (B b:Nat) (l:LU) (w:World):Prop:=Lib.IsBuilder 66 5 B b (Lib.byteCells l) w
theorem Qb7.call {B b:Nat} {l:LU} {w w':World} (h:Qb7 B b l w) (hb:Bw w w'):Qb7 B b l w':=by
 rcases h with h|h
 ·exact .inl (Q3i.call h hb)
 ·exact .inr (Q3i.call h hb)
theorem Qb7.new (B:Nat) (w:World) (hB:B<=w.heap.size):Qb7 B w.heap.size [] (w.alloc (.cells #[.pointer none,.slice none 0 0] 66)):=
 .inl ⟨hB,_,Ul _ _,⟨rfl,.inl ⟨rfl,rfl⟩⟩,by simp[Value.ownBlock]⟩
end Go.Proofs.YtdilmfakkppgpaaGreatDoor
namespace Go.Proofs.YtdilmfakkppgpaaGreatDoor
open Go.RowKit WordsM DecM
theorem Que:(Tryz.prog.info? 9).map (fun i=>(i.zero,i.size,i.bytes))=some (some (.string ⟨#[]⟩),1,16):=by kernel_rfl
theorem Qbm (t:ByteArray):∀u∈[Value.string t],u.oneCell'=true:=by
 intro u hu;rw[Uy] at hu;subst hu;rfl
theorem Q73 (m:Nat):Lib.repeatL [48] m=List.replicate m (48:UInt8):=by
 induction m with
 |zero=>rfl
 |succ m ih=>rw[Xbr,<-ih];rfl
def rev (xs:List (LU)):LU:=xs.reverse.flatten
theorem Qmj (xs:List (LU)) (t:LU):rev (xs++[t])=t++rev xs:=by simp[rev]
theorem Qws (xs:List (LU)) (h:∀x∈xs,1<=x.length):xs.length<=(rev xs).length:=by
 induction xs with
 |nil=>simp[rev]
 |cons x r ih=>
  have h1:=ih fun y hy=>h y (by simp[hy]);have h2:=h x (by simp);simp only[rev,List.reverse_cons,List.flatten_append,Uj,Uz] at h1⊢;simp only[List.flatten_cons,List.flatten_nil,TV];omega
def Qeg (v u:Nat) (xs:List (LU)):Prop:=(u=0->rev xs=dec v)/\(u≠0->dec v=dec u++rev xs)/\∀x∈xs,1<=x.length
theorem Qeg.len {v u:Nat} {xs:List (LU)} (h:Qeg v u xs):xs.length<=(dec v).length/\(rev xs).length<=(dec v).length:=by
 have h1:=Qws xs h.2.2
 by_cases h0:u=0
 ·rw[<-h.1 h0];exact ⟨h1,Ug _⟩
 ·have h2:=congrArg List.length (h.2.1 h0);rw[Uj] at h2;omega
theorem Qeg.next {v u q r:Nat} {xs:List (LU)} (h:Qeg v u xs) (hu:u≠0) (hq:u=q*10^19+r) (hr:r<10^19):Qeg v q (xs++[if q=0 then dec r else List.replicate (19-(dec r).length) 48++dec r]):=by
 have h1:=Q42 r;refine ⟨fun h0=>?_,fun h0=>?_,fun x hx=>?_⟩
 ·rw[Us h0,Qmj,h.2.1 hu,hq,h0];simp
 ·rw[Uq h0,Qmj,h.2.1 hu,hq,Qvb q (by omega) 19 r hr,Qvc 19 r (by decide) hr];simp
 ·rcases UY.1 hx with hx|hx
  ·exact h.2.2 x hx
  ·rw[Uy] at hx;subst hx
   split
   ·exact h1
   ·rw[Uj];omega
theorem Qkk {w w':World} {a:OA} {n c:Nat} {ls:LN} {row:Option Nat} (h:WordsIn w a n c ls) (hg:w.grownBy w' row) (C1:∀x,a=some x->some x.block≠row):WordsIn w' a n c ls:=by
 refine ⟨h.len,h.cap,h.most,h.low,?_⟩;rcases h.rd with h0|⟨b,o,rfl,hb,hc⟩
 ·exact .inl h0
 ·have I7:=hg.block b hb (C1 _ rfl);have J5:b<w'.heap.size:=by
   have h1:w.heap[b]?=some w.heap[b]:=UD hb;rw[<-I7] at h1;exact (Uv.1 h1).1
  exact .inr ⟨b,o,rfl,J5,fun j x hx=>(Td (a:=⟨b,o+j,none⟩) I7).trans (hc j x hx)⟩
theorem Q9m {wr w2 w5:World} {O:Obj} {aq al a3:OA} {nq cq q:Nat} (hW:WordsIn w2 aq nq cq (dig (2^64) q)) (QM:q≠0) (L7:∀x,aq=some x->wr.heap.size<=x.block) (T4:∀y,al=some y->y.block<wr.heap.size)
 (hg:(w2.alloc O).grownBy w5 (al.map (·.block))) (R1:a3.map (·.block)=al.map (·.block)∨a3.map (·.block)=some (w2.alloc O).heap.size):WordsIn w5 aq nq cq (dig (2^64) q)/\∀x y,aq=some x->a3=some y->x.block≠y.block:=by
 have B0:∀x,aq=some x->x.block<w2.heap.size:=fun x e=>by
  rcases hW.rd with h0|⟨b,o,rfl,hb,_⟩
  ·exact absurd ((Q56 (by decide)).1 h0) QM
  ·injection e with e;subst e;exact hb
 refine ⟨Qkk (hW.step ((Uf _ _).alloc (Ug _) O)) hg fun x e e2=>?_,fun x y ex ey e=>?_⟩
 ·cases hal2:al with
  |none=>rw[hal2] at e2;cases e2
  |some z=>
   rw[hal2] at e2;simp only[UM,Un] at e2;have:=L7 x e;have:=T4 z hal2;omega
 ·have h1:=B0 x ex;have h2:=L7 x ex;rw[ey,UM] at R1;rcases R1 with h3|h3
  ·cases hal2:al with
   |none=>rw[hal2] at h3;cases h3
   |some z=>
    rw[hal2] at h3;simp only[UM,Un] at h3;have:=T4 z hal2;omega
  ·simp only[Un] at h3;rw[Uo] at h3;omega
theorem Qkl (a:OA) (n c:Nat) (v:Nat) (w:World) (h:WordsIn w a n c (dig (2^64) v)) (hn:n<=64) (XT:(dec v).length<=1281) (t7:∀W,Bw w W->Lib.TabIs Tryz.prog W "internal/strconv.uint64pow10" .u64 Lib.pow10Tab):
 Calls Tryz.prog 114 #[.slice a n c] w fun e w'=>e=.returned (sv (dec v))/\Bw w w':=by
 by_cases C9:v=0
 ·have d8:n=0:=by have:=h.len;rw[C9,Q11] at this;exact this.symm
  subst d8 C9;have V8:dec 0=[48]:=Q2d (by decide);have HD:=Ua V8;clear h V8 t7 XT
  go_enter Tryz.func114,Tryz.ntmps114
  go_wp2_with fail
  go_ret;rw[HD.out];exact ⟨rfl,Uf _ _⟩
 ·have d8:n≠0:=fun e=>C9 ((Q56 (B:=2^64) (by decide)).1 (UH.1 (by rw[h.len,e])));have hn0I:((n:Int)==0)=false:=by rw[Ui];omega
  obtain ⟨i0,O1,P1,K1,J1⟩:=Xby Que;have HI:=Xh4 O1 P1 K1 J1;have H:=Xh3 h t7 C9;clear h t7 C9 O1 P1 K1 J1
  go_enter Tryz.func114,Tryz.ntmps114
  go_wp2_with fail
  go_loopg [0,3] v (fun g wv lv wr=>∃(u:Nat) (ao:OA) (no co:Nat) (al:OA) (k cl:Nat) (xs:List (LU)),wv=.slice ao no co/\lv=.slice al k cl/\no<=64/\WordsIn wr ao no co (dig (2^64) u)/\Row wr w.heap.size 9 1 al k cl (xs.map sv)/\xs.length=k/\Qeg v u xs/\g=u/\Bw w wr/\(u≠0->∀x y,ao=some x->al=some y->x.block≠y.block))
  case atStart=>exact ⟨v,a,n,c,none,0,0,[],rfl,rfl,hn,(Xo0 H),Row.nil_ _ _ _ _,rfl,⟨fun e=>absurd e (Xe2 H),fun _=>by simp[rev],fun x hx=>by simp at hx⟩,rfl,Uf _ _,fun _ x y _ e=>by cases e⟩
  case round=>
   obtain ⟨u,ao,no,co,al,k,cl,xs,rfl,rfl,D7,hW,I0,J3,Jd,hg,hb,hdis⟩:=hrel
   by_cases hu:u=0
   ·subst hu;have hno0:no=0:=(by have:=hW.len;rw[Q11] at this;exact this.symm);subst hno0;have y7:=Jd.1 rfl;have hk:=Jd.len;have N9:k<=1281:=(by omega);have Wu:∀W,Bw wr W->∀i t,xs[i]?=some t->∃g,al=some ⟨g,0,none⟩/\W.cell? ⟨g,i,none⟩=some (sv t):=fun W o7 i t ht=>by
     obtain ⟨g,B7,_,Y6,hc⟩:=I0.at_ (j:=i) (x:=sv t) (by rw[UT,ht];rfl);exact ⟨g,B7,(o7.cell (p:=⟨g,i,none⟩) Y6).trans hc⟩
    have R0:(rev xs).length<=1281:=(by omega);have V5:Bw wr (wr.alloc (.cells #[.pointer none,.slice none 0 0] 66)):=Ba;have hbn:=Qb7.new wr.heap.size wr (Ug _);have HX:=Xh6 y7 Wu R0 hb V5 hbn;clear y7 hk Wu R0 hb V5 hbn I0 Jd hdis hW hg;generalize wr=W1 at*
    go_wp2_with fail
    go_loopw [10] (fun iv wz=>∃j:Nat,iv=.int .i64 ((j:Int)-1)/\j<=k/\Qb7 W1.heap.size W1.heap.size (rev (xs.drop j)) wz/\Bw W1 wz) (fun iv _=>(intOf iv+1).toNat)
    case atStart=>exact ⟨k,rfl,Ug _,by rw[TH (by omega)];exact (Xe5 HX),(Xo4 HX)⟩
    case round=>
     obtain ⟨j,rfl,hj,hbu,R4⟩:=hrel;cases j with
     |zero=>
      rw[Xaw,(Xo0 HX)] at hbu;have HB:=Xh2 hbu R4;clear hbu R4
      go_wp2_with (refine (Tryz.Qzd W1.heap.size W1.heap.size _ _ (Xo0 HB) (Xe1 HB).size).mono ?_;rintro e w3 ⟨rfl,M0⟩;have M4:=Ua M0;clear M0)
      go_ret;exact ⟨rfl,Below.next0 (Xo3 HX) ((Xe1 HB).trans M4.out)⟩
     |succ j=>
      obtain ⟨t,ht⟩:∃t,xs[j]?=some t:=⟨_,Ub (by omega)⟩;obtain ⟨g,rfl,hct⟩:=(Xo1 HX) _ R4 j t ht;have U7:rev (xs.drop j)=rev (xs.drop (j+1))++t:=by
       have e1:=Um.1 ht;rw[UC e1.1,e1.2];simp[rev]
      have hl:(rev (xs.drop (j+1))).length+t.length<=1281:=by
       have h1:xs=xs.take j++xs.drop j:=(List.take_append_drop j xs).symm;have h2:(rev (xs.drop j)).length<=(rev xs).length:=by
        have h3:rev xs=rev (xs.drop j)++rev (xs.take j):=by
         have h4:=congrArg rev h1;rw[h4];unfold rev;rw[List.reverse_append,List.flatten_append]
        rw[h3,Uj];omega
       rw[U7,Uj] at h2;have:=(Xo2 HX);omega
      have hjI:((j+1:Nat):Int)-1=(j:Int):=(by omega);have JI:(j:Int)<(k:Int):=(by omega);have HD:=Xh4 U7 hbu R4 hl;clear U7 hbu R4 hl ht;rw[hjI]
      go_wp2_with (refine (Qrt W1.heap.size W1.heap.size _ t _ (Xo1 HD) (by have:=(Xe3 HD);omega) (Xo2 HD).size).mono ?_;rintro e w3 ⟨rfl,G0,F1⟩;have N3:=Xh2 G0 F1;clear G0 F1)
      exact ⟨⟨j,rfl,by omega,by rw[(Xo0 HD)];exact .inr (Xo0 N3),(Xo2 HD).trans (Xe1 N3)⟩,by simp only[intOf];omega⟩
   ·have hno0:no≠0:=fun e=>hu ((Q56 (B:=2^64) (by decide)).1 (UH.1 (by rw[hW.len,e])));have hnoI:(0:Int)<(no:Int):=(by omega);have V5:Bw wr (wr.alloc (.cells #[.int .u64 10000000000000000000] 74)):=Ba;have Yx:=Qjl ao no co (dig (2^64) u) (some ⟨wr.heap.size,0,none⟩) 1 10000000000000000000 (wr.alloc (.cells #[.int .u64 10000000000000000000] 74)) (hW.step V5) (Qey wr 10000000000000000000 (by decide) 74) (by omega) (by decide) (by rw[Q0x (by decide)];exact hu);rw[Q0x (by decide)] at Yx;obtain ⟨q,hq⟩:∃q,u / 10000000000000000000=q:=⟨_,rfl⟩;obtain ⟨r,hr⟩:∃r,u%10000000000000000000=r:=⟨_,rfl⟩;rw[hq,hr] at Yx;have hr19:r<10000000000000000000:=(by rw[<-hr];exact TG _ (by decide));have Ze:r<2^64:=Nat.lt_trans hr19 (by decide);have huq:u=q*10^19+r:=(by rw[<-hq,<-hr,UG];exact (TJ u (10^19)).symm);have T6:=Jd.next hu huq hr19;have hqu:q<u:=(by rw[<-hq];exact Xbu (by omega) (by decide));have hnq64:(dig (2^64) q).length<=64:=Ur (Q1v (by decide) (TI hqu)) (by rw[hW.len];exact D7);have Xl:(dec r).length<=19:=dec_len 19 r hr19 (by decide);have hk:=Jd.len;have N9:k<=1281:=(by omega);have HDV:=Ua Yx;have VV:=Ua V5;have Je:=Ua hb;have HTB:=Ua (Xo1 H);have T4:∀y,al=some y->y.block<wr.heap.size:=fun y e=>by
     rcases I0.form with ⟨h0,_⟩|⟨g,cur,h0,_,hg,_⟩
     ·rw[h0] at e;cases e
     ·rw[h0] at e;injection e with e;subst e;exact hg
    have HAL:=Xh2 T4 hdis;clear T4 hdis;have HRW:=Ua (fun W (o7:Bw wr W)=>I0.call o7);have Qs:=Xh5 T6 hqu hnq64 hg hb;clear Yx hq hr huq T6 hqu hnq64 I0 hb hW hg V5 hk Jd
    by_cases QM:q=0
    ·by_cases y4:r=0
     ·skip;have Js:=Ua QM;have QP:=Ua (show (0:Nat)=0 from rfl);clear QM;subst y4;have hS:(dec 0).length<=19:=Xl;obtain ⟨t,ht⟩:∃t:LU,t=dec 0:=⟨_,rfl⟩;have Z5:t.length<=40:=(by rw[ht];omega);have HT:=Ua ht
      go_wp2_with (first
       |(go_at_call_of 153 ao;refine HDV.out.mono ?_;rintro e w1 ⟨aq,nq,cq,ar,nr,cr,rfl,Qp,XP,C0,L7⟩;have Wc:=Ua (fun x (e:aq=some x)=>Ur VV.out.size (L7 x e));clear L7;obtain rfl:nq=0:=by { have:=Qp.len;rw[Js.out,Q11] at this;exact this.symm };obtain rfl:nr=0:=by { have:=XP.len;rw[QP.out,Q11] at this;exact this.symm };have K0:=Xh2 Qp (Below.next0 VV.out C0);clear Qp XP C0)
       |(refine (Qbl 0 (by omega) _ (HTB.out _ (Below.next0 Je.out (Xe1 K0)))).mono ?_;rintro e w2 ⟨rfl,D0⟩;have B1:=Xh2 ((Xo0 K0).step D0) (Below.next0 (Xe1 K0) D0);clear D0)
       |(at_builtin;refine Q0p rfl (.tmp 41) (.tmp 43) 77 rfl w _ 9 i0 _ 1 16 Tryz.underlying77 (Xo0 HI) (Xo1 HI) (Xo2 HI) (Xe3 HI) rfl (by decide) w.heap.size ((Below.next0 Je.out (Xe1 B1)).alloc (Below.next0 Je.out (Xe1 B1)).size _) ((Below.next0 Je.out (Xe1 B1)).alloc (Below.next0 Je.out (Xe1 B1)).size _).size al k cl _ rfl ((HRW.out _ (Xe1 B1)).alloc _) ⟨w2.heap.size,0,none⟩ 1 1 [sv (dec 0)] rfl rfl (Q39 w2 #[sv (dec 0)] _ _) (Qbm _) (k+1) rfl (by omega) (by omega) ?_;intro a3 c3 w5 B9 QL M0 J6;have HO:=Xh4 B9 M0 QL J6;clear B9 QL M0 J6))
      go_roundg q
      case measure=>have h1:=(Xo1 Qs);have h2:=(Xo3 Qs);omega
      case rel=>
       have h1:=(Xo0 Qs);rw[Us Js.out] at h1;have Ku:0<=64:=(by have h3:=(Xo0 B1).len;have h4:=(Xo2 Qs);omega);have Wm:Row w5 w.heap.size 9 1 a3 (k+1) c3 ((xs++[t]).map sv):=by
        have h5:=(Xo0 HO);rw[UP,HT.out];exact h5
       exact ⟨q,aq,0,cq,a3,k+1,c3,xs++[t],rfl,rfl,Ku,⟨(Xo0 B1).len,(Xo0 B1).cap,(Xo0 B1).most,(Xo0 B1).low,.inl (by rw[Js.out];rfl)⟩,Wm,by rw[Uj,J3];rfl,by rw[HT.out];exact h1,rfl,(Xo1 HO),fun h=>absurd Js.out h⟩
     ·skip;have Js:=Ua QM;have QP:=Ua y4;clear QM y4;have hS:(dec r).length<=19:=Xl;obtain ⟨t,ht⟩:∃t:LU,t=dec r:=⟨_,rfl⟩;have Z5:t.length<=40:=(by rw[ht];omega);have HT:=Ua ht
      go_wp2_with (first
       |(go_at_call_of 153 ao;refine HDV.out.mono ?_;rintro e w1 ⟨aq,nq,cq,ar,nr,cr,rfl,Qp,XP,C0,L7⟩;have Wc:=Ua (fun x (e:aq=some x)=>Ur VV.out.size (L7 x e));clear L7;obtain rfl:nq=0:=by { have:=Qp.len;rw[Js.out,Q11] at this;exact this.symm };have K2:=Qpc (d:=r) Ze QP.out;rw[K2] at XP;obtain rfl:nr=1:=XP.len.symm;obtain ⟨gr,og,Xf,m7,Z8⟩:=XP.rd.at_ (k:=0) (x:=r) rfl;rw[Tu] at Z8;subst Xf;have K0:=Xh2 Qp (Below.next0 VV.out C0);clear Qp XP C0)
       |(refine (Qbl r (by omega) _ (HTB.out _ (Below.next0 Je.out (Xe1 K0)))).mono ?_;rintro e w2 ⟨rfl,D0⟩;have B1:=Xh2 ((Xo0 K0).step D0) (Below.next0 (Xe1 K0) D0);clear D0)
       |(at_builtin;refine Q0p rfl (.tmp 41) (.tmp 43) 77 rfl w _ 9 i0 _ 1 16 Tryz.underlying77 (Xo0 HI) (Xo1 HI) (Xo2 HI) (Xe3 HI) rfl (by decide) w.heap.size ((Below.next0 Je.out (Xe1 B1)).alloc (Below.next0 Je.out (Xe1 B1)).size _) ((Below.next0 Je.out (Xe1 B1)).alloc (Below.next0 Je.out (Xe1 B1)).size _).size al k cl _ rfl ((HRW.out _ (Xe1 B1)).alloc _) ⟨w2.heap.size,0,none⟩ 1 1 [sv (dec r)] rfl rfl (Q39 w2 #[sv (dec r)] _ _) (Qbm _) (k+1) rfl (by omega) (by omega) ?_;intro a3 c3 w5 B9 QL M0 J6;have HO:=Xh4 B9 M0 QL J6;clear B9 QL M0 J6))
      go_roundg q
      case measure=>have h1:=(Xo1 Qs);have h2:=(Xo3 Qs);omega
      case rel=>
       have h1:=(Xo0 Qs);rw[Us Js.out] at h1;have Ku:0<=64:=(by have h3:=(Xo0 B1).len;have h4:=(Xo2 Qs);omega);have Wm:Row w5 w.heap.size 9 1 a3 (k+1) c3 ((xs++[t]).map sv):=by
        have h5:=(Xo0 HO);rw[UP,HT.out];exact h5
       exact ⟨q,aq,0,cq,a3,k+1,c3,xs++[t],rfl,rfl,Ku,⟨(Xo0 B1).len,(Xo0 B1).cap,(Xo0 B1).most,(Xo0 B1).low,.inl (by rw[Js.out];rfl)⟩,Wm,by rw[Uj,J3];rfl,by rw[HT.out];exact h1,rfl,(Xo1 HO),fun h=>absurd Js.out h⟩
    ·by_cases y4:r=0
     ·skip;have Js:=Ua QM;have QP:=Ua (show (0:Nat)=0 from rfl);clear QM;subst y4;obtain ⟨m,hm⟩:∃m,19-(dec 0).length=m:=⟨_,rfl⟩;have hmI:(19:Int)-((dec 0).length:Int)=(m:Int):=(by omega);have hm19:m<=19:=(by omega);have hrpl:(Lib.repeatL [48] m).length=m:=(by rw[Q73,List.length_replicate]);have hdl19':(Lib.decDigits _).length<=19:=Xl;have hrp:=fun W=>Tryz.J0z ⟨#[48]⟩ m W (by omega) (by show 1*m<=_;omega);obtain ⟨t,ht⟩:∃t:LU,t=List.replicate m 48++dec 0:=⟨_,rfl⟩;have Z5:t.length<=40:=(by rw[ht];simp;omega);have HT:=Ua ht
      go_wp2_with (first
       |(go_at_call_of 153 ao;refine HDV.out.mono ?_;rintro e w1 ⟨aq,nq,cq,ar,nr,cr,rfl,Qp,XP,C0,L7⟩;have Wc:=Ua (fun x (e:aq=some x)=>Ur VV.out.size (L7 x e));clear L7;have hnqI:(0:Int)<(nq:Int):=by { have h9:=Qp.len;have h8:nq≠0:=fun e=>Js.out ((Q56 (B:=2^64) (by decide)).1 (UH.1 (by rw[h9,e])));omega };obtain rfl:nr=0:=by { have:=XP.len;rw[QP.out,Q11] at this;exact this.symm };have K0:=Xh2 Qp (Below.next0 VV.out C0);clear Qp XP C0)
       |(refine (Qbl 0 (by omega) _ (HTB.out _ (Below.next0 Je.out (Xe1 K0)))).mono ?_;rintro e w2 ⟨rfl,D0⟩;have B1:=Xh2 ((Xo0 K0).step D0) (Below.next0 (Xe1 K0) D0);clear D0)
       |(go_at_call_of 155 (Value.string ⟨#[48]⟩);refine (hrp _).mono ?_;rintro e w3 ⟨rfl,G0⟩;have D2:=Xh2 ((Xo0 B1).step G0) (Below.next0 (Xe1 B1) G0);clear G0)
       |(at_builtin;refine Q0p rfl (.tmp 41) (.tmp 43) 77 rfl w _ 9 i0 _ 1 16 Tryz.underlying77 (Xo0 HI) (Xo1 HI) (Xo2 HI) (Xe3 HI) rfl (by decide) w.heap.size ((Below.next0 Je.out (Xe1 D2)).alloc (Below.next0 Je.out (Xe1 D2)).size _) ((Below.next0 Je.out (Xe1 D2)).alloc (Below.next0 Je.out (Xe1 D2)).size _).size al k cl _ rfl ((HRW.out _ (Xe1 D2)).alloc _) ⟨w3.heap.size,0,none⟩ 1 1 [Value.string (⟨(Lib.repeatL [48] m).toArray⟩++⟨(dec 0).toArray⟩)] rfl rfl (Q39 w3 #[Value.string (⟨(Lib.repeatL [48] m).toArray⟩++⟨(dec 0).toArray⟩)] _ _) (Qbm _) (k+1) rfl (by omega) (by omega) ?_;intro a3 c3 w5 B9 QL M0 J6;have HO:=Xh4 B9 M0 QL J6;clear B9 QL M0 J6))
      go_roundg q
      case measure=>have h1:=(Xo1 Qs);have h2:=(Xo3 Qs);omega
      case rel=>
       have h1:=(Xo0 Qs);rw[Uq Js.out,hm] at h1;have Ku:nq<=64:=(by have h3:=(Xo0 D2).len;have h4:=(Xo2 Qs);omega);have Wm:Row w5 w.heap.size 9 1 a3 (k+1) c3 ((xs++[t]).map sv):=by
        have h5:=(Xo0 HO);rw[UP,HT.out];rw[Q73] at h5;have h6:∀(l r:LU),Value.string ((⟨l.toArray⟩:ByteArray)++⟨r.toArray⟩)=sv (l++r):=fun l r=>congrArg Value.string (ByteArray.ext (by simp[TS]));rw[h6] at h5;exact h5
       exact ⟨q,aq,nq,cq,a3,k+1,c3,xs++[t],rfl,rfl,Ku,(Q9m (Xo0 D2) Js.out Wc.out (Xo0 HAL) (Xo2 HO) (Xe3 HO)).1,Wm,by rw[Uj,J3];rfl,by rw[HT.out];exact h1,rfl,(Xo1 HO),fun _=>(Q9m (Xo0 D2) Js.out Wc.out (Xo0 HAL) (Xo2 HO) (Xe3 HO)).2⟩
     ·skip;have Js:=Ua QM;have QP:=Ua y4;clear QM y4;obtain ⟨m,hm⟩:∃m,19-(dec r).length=m:=⟨_,rfl⟩;have hmI:(19:Int)-((dec r).length:Int)=(m:Int):=(by omega);have hm19:m<=19:=(by omega);have hrpl:(Lib.repeatL [48] m).length=m:=(by rw[Q73,List.length_replicate]);have hdl19':(Lib.decDigits _).length<=19:=Xl;have hrp:=fun W=>Tryz.J0z ⟨#[48]⟩ m W (by omega) (by show 1*m<=_;omega);obtain ⟨t,ht⟩:∃t:LU,t=List.replicate m 48++dec r:=⟨_,rfl⟩;have Z5:t.length<=40:=(by rw[ht];simp;omega);have HT:=Ua ht
      go_wp2_with (first
       |(go_at_call_of 153 ao;refine HDV.out.mono ?_;rintro e w1 ⟨aq,nq,cq,ar,nr,cr,rfl,Qp,XP,C0,L7⟩;have Wc:=Ua (fun x (e:aq=some x)=>Ur VV.out.size (L7 x e));clear L7;have hnqI:(0:Int)<(nq:Int):=by { have h9:=Qp.len;have h8:nq≠0:=fun e=>Js.out ((Q56 (B:=2^64) (by decide)).1 (UH.1 (by rw[h9,e])));omega };have K2:=Qpc (d:=r) Ze QP.out;rw[K2] at XP;obtain rfl:nr=1:=XP.len.symm;obtain ⟨gr,og,Xf,m7,Z8⟩:=XP.rd.at_ (k:=0) (x:=r) rfl;rw[Tu] at Z8;subst Xf;have K0:=Xh2 Qp (Below.next0 VV.out C0);clear Qp XP C0)
       |(refine (Qbl r (by omega) _ (HTB.out _ (Below.next0 Je.out (Xe1 K0)))).mono ?_;rintro e w2 ⟨rfl,D0⟩;have B1:=Xh2 ((Xo0 K0).step D0) (Below.next0 (Xe1 K0) D0);clear D0)
       |(go_at_call_of 155 (Value.string ⟨#[48]⟩);refine (hrp _).mono ?_;rintro e w3 ⟨rfl,G0⟩;have D2:=Xh2 ((Xo0 B1).step G0) (Below.next0 (Xe1 B1) G0);clear G0)
       |(at_builtin;refine Q0p rfl (.tmp 41) (.tmp 43) 77 rfl w _ 9 i0 _ 1 16 Tryz.underlying77 (Xo0 HI) (Xo1 HI) (Xo2 HI) (Xe3 HI) rfl (by decide) w.heap.size ((Below.next0 Je.out (Xe1 D2)).alloc (Below.next0 Je.out (Xe1 D2)).size _) ((Below.next0 Je.out (Xe1 D2)).alloc (Below.next0 Je.out (Xe1 D2)).size _).size al k cl _ rfl ((HRW.out _ (Xe1 D2)).alloc _) ⟨w3.heap.size,0,none⟩ 1 1 [Value.string (⟨(Lib.repeatL [48] m).toArray⟩++⟨(dec r).toArray⟩)] rfl rfl (Q39 w3 #[Value.string (⟨(Lib.repeatL [48] m).toArray⟩++⟨(dec r).toArray⟩)] _ _) (Qbm _) (k+1) rfl (by omega) (by omega) ?_;intro a3 c3 w5 B9 QL M0 J6;have HO:=Xh4 B9 M0 QL J6;clear B9 QL M0 J6))
      go_roundg q
      case measure=>have h1:=(Xo1 Qs);have h2:=(Xo3 Qs);omega
      case rel=>
       have h1:=(Xo0 Qs);rw[Uq Js.out,hm] at h1;have Ku:nq<=64:=(by have h3:=(Xo0 D2).len;have h4:=(Xo2 Qs);omega);have Wm:Row w5 w.heap.size 9 1 a3 (k+1) c3 ((xs++[t]).map sv):=by
        have h5:=(Xo0 HO);rw[UP,HT.out];rw[Q73] at h5;have h6:∀(l r:LU),Value.string ((⟨l.toArray⟩:ByteArray)++⟨r.toArray⟩)=sv (l++r):=fun l r=>congrArg Value.string (ByteArray.ext (by simp[TS]));rw[h6] at h5;exact h5
       exact ⟨q,aq,nq,cq,a3,k+1,c3,xs++[t],rfl,rfl,Ku,(Q9m (Xo0 D2) Js.out Wc.out (Xo0 HAL) (Xo2 HO) (Xe3 HO)).1,Wm,by rw[Uj,J3];rfl,by rw[HT.out];exact h1,rfl,(Xo1 HO),fun _=>(Q9m (Xo0 D2) Js.out Wc.out (Xo0 HAL) (Xo2 HO) (Xe3 HO)).2⟩
theorem Qru {w:World} {a:OA} {n c:Nat} {ls:LN} {neg:Bool} {exp:Int} (h:WordsIn w a n c ls) (hn:Q0i neg exp ls):ls=dig (2^64) (val (2^64) ls):=by
 have h1:trimL ls=ls:=by
  by_cases h0:ls=[]
  ·subst h0;rfl
  ·unfold Q0i at hn;rw[Uq h0] at hn;have h2:=Q3a ls;rw[hn.1,Ta] at h2;exact h2.symm
 have h3:=Q1q (B:=2^64) (by decide) h.low;rw[h1] at h3;exact h3
theorem Qmk (neg:Bool) (exp:Int) (a:OA) (n c:Nat) (ls:LN) (w:World) (h:WordsIn w a n c ls) (he: -9223372036854775808<=exp) (V6:exp<=9223372036854775807) (t7:∀W,Bw w W->Lib.TabIs Tryz.prog W "internal/strconv.uint64pow10" .u64 Lib.pow10Tab):
 Calls Tryz.prog 69 #[.agg #[.bool neg,.int .i64 exp,.slice a n c]] w fun e w'=>e=.returned (sv (Q1a neg exp ls))/\Bw w w':=by
 have E4:=Ur h.cap h.most;have F2:Bw w (w.alloc (.cells #[.bool neg,.int .i64 exp,.slice a n c] 41)):=Ba;have hN:=Q02.new w (.bool neg) (.int .i64 exp) (.slice a n c) 41;have A3:=Q0r w (.cells #[.bool neg,.int .i64 exp,.slice a n c] 41);have hr:=Q2x neg exp a n c ls _ (h.step F2) he V6 E4
 by_cases X1:Q0i neg exp ls
 ·have r7:Q1a neg exp ls=Q2s neg (val (2^64) ls) exp:=Us X1;rw[r7];have X5:=X1.exp;have Ye:n<=64:=by rw[<-h.len];exact X5.2.2
  rw[UU X1] at hr;have Vu:=Qgr h Ye;have ZA:=Qru h X1;have hp:=fun W (hb:Bw w W)=>Qkl a n c (val (2^64) ls) W (by rw[<-ZA];exact h.step hb) Ye Vu (fun V hV=>t7 V (Below.next0 hb hV));generalize val (2^64) ls=v at*;have HR:=Xh5 hr hp hN F2 t7;clear hr hp r7 X1 h hN F2 ZA t7
  by_cases h0:exp=0
  ·subst h0;cases neg
   all_goals
    go_enter Tryz.func69,Tryz.ntmps69
    go_wp2_with (first
     |(go_at_call_of 114 a;refine ((Xo1 HR) _ K0.out).mono ?_;rintro e w3 ⟨rfl,G0⟩;have C2:=Below.next0 QP.out G0;have hQ:=(Xo2 HR).step C2 A3;have U9:=hQ.c0;have B7:=hQ.c1;have D2:=Ua C2;clear G0 C2 hQ)
     |(refine (Xo0 HR).mono ?_;rintro e w1 ⟨rfl,C0⟩;have hQ:=(Xo2 HR).step C0 A3;have Y6:=hQ.c2;have K0:=Ua (Below.next0 (Xo3 HR) C0);have QP:=Ua C0;clear C0 hQ))
    go_ret;refine ⟨?_,Below.next0 (Xo3 HR) D2.out⟩;refine congrArg Ending.returned (congrArg Value.string (ByteArray.ext ?_));simp[Q2s,Qa1]
  ·obtain ⟨m,hm⟩:∃m:Nat,exp.natAbs=m:=⟨_,rfl⟩;have O7:0<m:=(by omega);have C8:m<=65536:=(by omega);have ZD:=dec_len 5 m (by omega) (by decide);have hml':(Lib.decDigits m).length<=5:=ZD;have h0I:((exp != 0):Bool)=true:=by rw[bne_iff_ne];exact h0
   by_cases P6:exp<0
   ·skip;have M7:Lib.itoa exp=45::dec m:=(by { rw[show exp= -(m:Int) by omega];exact Lib.itoa_neg m O7 });have hitl:(Lib.itoa exp).length<=6:=(by { rw[M7];simp;omega });have HIT:=Xh2 M7 hm;clear M7 hm X5;cases neg
    all_goals
     go_enter Tryz.func69,Tryz.ntmps69
     go_wp2_with (first
      |(go_at_call_of 114 a;refine ((Xo1 HR) _ K0.out).mono ?_;rintro e w3 ⟨rfl,G0⟩;have C2:=Below.next0 QP.out G0;have hQ:=(Xo2 HR).step C2 A3;have U9:=hQ.c0;have B7:=hQ.c1;have D2:=Ua C2;clear G0 C2 hQ)
      |(go_at_call_of 115 exp;refine (Tryz.J0e exp he V6 _ ((Xe4 HR) _ (Below.next0 (Xo3 HR) D2.out))).mono ?_;rintro e w4 ⟨rfl,k4,os4,rfl⟩;have N3:=Ua (Below.next0 D2.out (Qah k4 os4)))
      |(refine (Xo0 HR).mono ?_;rintro e w1 ⟨rfl,C0⟩;have hQ:=(Xo2 HR).step C0 A3;have Y6:=hQ.c2;have K0:=Ua (Below.next0 (Xo3 HR) C0);have QP:=Ua C0;clear C0 hQ))
     go_ret;refine ⟨?_,Below.next0 (Xo3 HR) N3.out⟩;refine congrArg Ending.returned (congrArg Value.string (ByteArray.ext ?_));simp[TS,Q2s,Qa1,h0,P6,(Xo0 HIT),(Xe1 HIT)]
   ·skip;have M7:Lib.itoa exp=dec m:=(by { rw[show exp=(m:Int) by omega];exact Lib.itoa_nonneg m });have hitl:(Lib.itoa exp).length<=6:=(by { rw[M7];exact Ur ZD (by decide) });have HIT:=Xh2 M7 hm;clear M7 hm X5;cases neg
    all_goals
     go_enter Tryz.func69,Tryz.ntmps69
     go_wp2_with (first
      |(go_at_call_of 114 a;refine ((Xo1 HR) _ K0.out).mono ?_;rintro e w3 ⟨rfl,G0⟩;have C2:=Below.next0 QP.out G0;have hQ:=(Xo2 HR).step C2 A3;have U9:=hQ.c0;have B7:=hQ.c1;have D2:=Ua C2;clear G0 C2 hQ)
      |(go_at_call_of 115 exp;refine (Tryz.J0e exp he V6 _ ((Xe4 HR) _ (Below.next0 (Xo3 HR) D2.out))).mono ?_;rintro e w4 ⟨rfl,k4,os4,rfl⟩;have N3:=Ua (Below.next0 D2.out (Qah k4 os4)))
      |(refine (Xo0 HR).mono ?_;rintro e w1 ⟨rfl,C0⟩;have hQ:=(Xo2 HR).step C0 A3;have Y6:=hQ.c2;have K0:=Ua (Below.next0 (Xo3 HR) C0);have QP:=Ua C0;clear C0 hQ))
     go_ret;refine ⟨?_,Below.next0 (Xo3 HR) N3.out⟩;refine congrArg Ending.returned (congrArg Value.string (ByteArray.ext ?_));simp[TS,Q2s,Qa1,h0,P6,(Xo0 HIT),(Xe1 HIT)]
 ·have r7:Q1a neg exp ls=[]:=Uq X1;rw[r7];rw[UL X1] at hr;have HR:=Xh3 hr hN F2;clear hr r7 X1 h hN F2 t7
  go_enter Tryz.func69,Tryz.ntmps69
  go_wp2_with (refine (Xo0 HR).mono ?_;rintro e w1 ⟨rfl,C0⟩;have K0:=Ua (Below.next0 (Xe2 HR) C0);clear C0)
  go_ret;exact ⟨rfl,K0.out⟩
end Go.Proofs.YtdilmfakkppgpaaGreatDoor
