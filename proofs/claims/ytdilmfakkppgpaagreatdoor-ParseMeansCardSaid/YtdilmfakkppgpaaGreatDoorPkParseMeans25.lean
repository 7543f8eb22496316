/- Part 25 of the proof of LawParseMeans: ParseP, FmtU, Builder, DigC. Condition: as each theorem says; none at the end. -/
import Derived.Lib.Walk
import Derived.Lib.AppendIntMem
import Derived.BigCall
import Derived.BigGuard
import Derived.WalkSmall
import Derived.Lib.Builder
import Derived.Lib.AppendStr
import Derived.Lib.UnsafeStr
import Derived.Laws.Externs
import Derived.Test.YtdilmfakkppgpaaGreatDoorPkParseMeans24
set_option maxRecDepth 100000
set_option maxHeartbeats 16000000
namespace Go.Proofs.YtdilmfakkppgpaaGreatDoor
open Go.RowKit WordsM
theorem Qmo:(Tryz.prog.info? 25).map (fun i=>(i.zero,i.size,i.bytes))=some (some (.slice none 0 0),1,24):=by kernel_rfl
def Sl (v:Value):Prop:=∃a n c,v=.slice a n c
theorem Q0c.kept {w w':World} {a:Option Addr} {n c:Nat} {ms:List Q05} (h:Q0c w a n c ms) (row:Option Nat) (hg:w.grownBy w' row) (hs:∀g,row=some g->∀o v,w.cell? ⟨g,o,none⟩=some v->Sl v):Q0c w' a n c ms:=by
 have hk:∀(b o:Nat) (v:Value),b<w.heap.size->w.cell? ⟨b,o,none⟩=some v->¬Sl v->w'.heap[b]?=w.heap[b]?:=fun b o v hb hc hn=>hg.block b hb (fun e=>hn (hs b e.symm o v hc))
 obtain ⟨h1,h2,h3,h4⟩:=h
 refine ⟨h1,h2,h3,?_⟩
 rcases h4 with h4|⟨b,o,h5,h6,h7⟩
 ·exact .inl h4
 ·refine .inr ⟨b,o,h5,Nat.lt_of_lt_of_le h6 hg.size,fun j m hm=>?_⟩
  obtain ⟨aw,lw,cw,ae,le,ce,q0,q1,q2,q3,hw,hi,hx⟩:=h7 j m hm
  have hb:=hk b _ _ h6 q0 (fun ⟨_,_,_,e⟩=>by cases e)
  have hc:∀o,w'.cell? ⟨b,o,none⟩=w.cell? ⟨b,o,none⟩:=fun o=>World.cell?_of_block (a:=⟨b,o,none⟩) hb
  refine ⟨aw,lw,cw,ae,le,ce,(hc _).trans q0,(hc _).trans q1,(hc _).trans q2,(hc _).trans q3,⟨hw.len,hw.cap,hw.most,hw.low,?_⟩,⟨hi.len,hi.cap,hi.most,hi.rng,?_⟩,hx⟩
  ·rcases hw.rd with h0|⟨bb,oo,e,hbb,hcc⟩
   ·exact .inl h0
   ·exact .inr ⟨bb,oo,e,Nat.lt_of_lt_of_le hbb hg.size,fun i x hx=>(World.cell?_of_block (a:=⟨bb,oo+i,none⟩) (hk bb _ _ hbb (hcc i x hx) (fun ⟨_,_,_,e⟩=>by cases e))).trans (hcc i x hx)⟩
  ·rcases hi.rd with h0|⟨bb,oo,e,hbb,hcc⟩
   ·exact .inl h0
   ·exact .inr ⟨bb,oo,e,Nat.lt_of_lt_of_le hbb hg.size,fun i x hx=>(World.cell?_of_block (a:=⟨bb,oo+i,none⟩) (hk bb _ _ hbb (hcc i x hx) (fun ⟨_,_,_,e⟩=>by cases e))).trans (hcc i x hx)⟩
theorem Q4b.sl {w:World} {B:Nat} {e:TypeId} {k n c:Nat} {a:Option Addr} {xs:List Value} (h:Q4b Sl w B e k a n c xs):∀g,a.map (·.block)=some g->∀o v,w.cell? ⟨g,o,none⟩=some v->Sl v:=by
 intro g hg o v hv
 rcases h.1.form with ⟨h0,_⟩|⟨g',cur,rfl,_,_,hh,_⟩
 ·rw[h0] at hg;cases hg
 ·simp only[Option.map_some,Option.some.injEq] at hg
  subst hg
  rw[cell_of_row _ _ _ _ _ _ hh] at hv
  exact h.2 g' cur _ _ rfl hh v (Array.mem_toList_iff.2 (Array.mem_of_getElem? hv))
theorem Q4r.get {w:World} {g:Nat}:∀{l:List (Nat × Ex)} {o i p:Nat} {x:Ex},Q4r w g o l->l[i]?=some (p,x)->w.cell? ⟨g,o+i*2,none⟩=some (.int .i64 (p:Int))/\∃u,w.cell? ⟨g,o+i*2+1,none⟩=some u/\Q2k (fun _=>False) w x u
 |[],_,_,_,_,_,hi=>by simp at hi
 |(p0,x0)::r,o,0,p,x,h,hi=>by
  simp only[List.getElem?_cons_zero,Option.some.injEq,Prod.mk.injEq] at hi
  obtain ⟨rfl,rfl⟩:=hi
  exact ⟨h.1,h.2.1⟩
 |(p0,x0)::r,o,i+1,p,x,h,hi=>by
  have:=Q4r.get (i:=i) h.2.2 (by simpa using hi)
  rwa[show o+2+i*2=o+(i+1)*2 by omega] at this
def Qtg:Except Nat (List (Nat × Ex))->Except (Nat × Int) (List (List Q0b))
 | .error p=>.error (p,5)
 | .ok l=>Q2m l.length l []
theorem Qgd (s:List UInt8):Q4o s=Qtg (Q40 s (min (s.count 10) 4) 4 0 []):=by
 unfold Q4o
 cases Q40 s (min (s.count 10) 4) 4 0 [] <;> rfl
def Q84 (w:World) (X:Except (Nat × Int) (List (List Q0b))) (r:Ending) (w':World):Prop:=Below w.heap.size w w'/\match X with
 | .error (p,e)=>r=.returned (.tuple #[.slice none 0 0,.int .i64 (p:Int),.int .i64 e])
 | .ok F=>∃a n c Fv,r=.returned (.tuple #[.slice a n c,.int .i64 0,.int .i64 0])/\Q49 w' a n c Fv/\Fv.map (List.map Q05.term)=F/\Q5b Fv
theorem Q84.err {w w':World} {X:Except (Nat × Int) (List (List Q0b))} {p:Nat} {e:Int} (hX:X=.error (p,e)) (hb:Below w.heap.size w w'):Q84 w X (.returned (.tuple #[.slice none 0 0,.int .i64 (p:Int),.int .i64 e])) w':=⟨hb,by rw[hX]⟩
def Q85 (w:World) (X:Except (Nat × Int) (List (List Q0b))) (r:Ending) (w':World):Prop:=Q84 w X r w'/\∀b o n c p e,r=.returned (.tuple #[.slice (some ⟨b,o,none⟩) n c,p,e])->w.heap.size<=b
theorem Q85.err {w w':World} {X:Except (Nat × Int) (List (List Q0b))} {p:Nat} {e:Int} (hX:X=.error (p,e)) (hb:Below w.heap.size w w'):Q85 w X (.returned (.tuple #[.slice none 0 0,.int .i64 (p:Int),.int .i64 e])) w':=⟨Q84.err hX hb,fun _ _ _ _ _ _ h=>by simp at h⟩
def Qq8 (w:World) (k:Nat) (l:List (Nat × Ex)) (s8 s24:Value) (wx:World):Prop:=∃(i:Nat) (a:Option Addr) (c:Nat) (Fv:List (List Q05)) (vs:List Value),s8=.slice a i c/\s24=.int .i64 (i:Int)/\i<=l.length/\Fv.length=i/\Q4b Sl wx w.heap.size 25 1 a i c vs/\
 (∀(j:Nat) (ms:List Q05),Fv[j]?=some ms->∃(p:Option Addr) (n d:Nat),vs[j]?=some (Value.slice p n d)/\Q0c wx p n d ms/\Q0s k ms)/\Q2m k l []=Q2m k (l.drop i) (Fv.map (List.map Q05.term))/\Below w.heap.size w wx
theorem Qq8.done {w wx:World} {k i c:Nat} {a:Option Addr} {Fv:List (List Q05)} {vs:List Value} (hl:Fv.length=i) (hr:Q4b Sl wx w.heap.size 25 1 a i c vs) (hat:∀(j:Nat) (ms:List Q05),Fv[j]?=some ms->∃(p:Option Addr) (n d:Nat),vs[j]?=some (Value.slice p n d)/\Q0c wx p n d ms/\Q0s k ms):Q49 wx a i c Fv:=by
 have hcap:=hr.1.cap
 refine ⟨hl,hcap.1,Nat.le_trans hcap.2 Qbj,?_⟩
 rcases hr.1.form with ⟨_,h0,_⟩|⟨g,cur,rfl,_,hlt,_⟩
 ·exact .inl (List.eq_nil_of_length_eq_zero (by omega))
 ·refine .inr ⟨g,0,rfl,hlt,fun j ms hm=>?_⟩
  obtain ⟨p,n,d,h1,h2,_⟩:=hat j ms hm
  obtain ⟨g',e,_,_,h3⟩:=hr.1.at_ h1
  injection e with e
  injection e with e
  subst e
  exact ⟨p,n,d,by rw[Nat.zero_add];exact h3,h2⟩
theorem Q6x (s:ByteArray) (w:World) (hs:s.size<=1000000) (hT:Q24 w):
 Calls Tryz.prog 17 #[.string s] w (Q85 w (Q4o s.data.toList)):=by
 obtain ⟨i0,hi0,hz0,hz1,hz2⟩:=Q0t Qmo
 have HI:=Xh4 hi0 hz0 hz1 hz2
 clear hi0 hz0 hz1 hz2
 have hln:=Qpz s w hs hT
 obtain ⟨Y,hY⟩:∃Y,Q40 s.data.toList (min (s.data.toList.count 10) 4) 4 0 []=Y:=⟨_,rfl⟩
 rw[hY] at hln
 obtain ⟨X,hX⟩:∃X,Q4o s.data.toList=X:=⟨_,rfl⟩
 rw[hX]
 have hXY:X=Qtg Y:=by rw[<-hX,Qgd,hY]
 have hgood:∀l,Y=.ok l->1<=l.length/\l.length<=4/\∀z∈l,Q3u l.length z.2:=fun l h=>Qm1 (by rw[hY];exact h)
 have H:=Xh4 hln hXY hgood hT
 clear hln hXY hgood hT hX hY
 go_enter Tryz.func17,Tryz.ntmps17
 cases Y with
 |error q=>
  have hX5:X=.error (q,5):=(Xo1 H)
  have HX:=Lib.hid hX5
  clear hX5
  go_wp2_with (go_at_call_of 43 (Value.string s);refine (Xo0 H).mono ?_;rintro r w1 ⟨a1,n1,c1,p1,b1,rfl,hb1,rfl,rfl⟩;have H1:=Lib.hid hb1;clear hb1)
  exact ⟨rfl,.tuple #[.slice none 0 0,.int .i64 (q:Int),.int .i64 5],by simp[results,go_sem],Q85.err HX.out H1.out⟩
 |ok l=>
  obtain ⟨k,hk⟩:∃k,l.length=k:=⟨_,rfl⟩
  obtain ⟨hk1,hk4,hgd⟩:=(Xo2 H) l rfl
  have hXl:X=Q2m l.length l []:=(Xo1 H)
  rw[hk] at hk1 hk4 hgd hXl
  have HX:=Xh3 hXl hgd hk
  clear hXl hgd hk
  go_wp2_with (go_at_call_of 43 (Value.string s);refine (Xo0 H).mono ?_;rintro r w1 ⟨a1,n1,c1,p1,b1,rfl,hb1,rfl,g1,rfl,hg1,hn1,hc1,hc2,hla⟩;obtain rfl:n1=k:=hn1.trans (Xe2 HX);have H1:=Xh5 hb1 hg1 hc1 hc2 hla;clear hb1 hg1 hn1 hc1 hc2 hla)
  rename World=>wl
  go_loopw [8,24] (fun s8 s24 wr=>Qq8 wl n1 l s8 s24 wr) (fun _ iv _=>n1-(intOf iv).toNat)
  case atStart=>exact ⟨0,none,0,[],[],rfl,rfl,Nat.zero_le _,rfl,Q4b.nil_ _ _ _ _ _,(fun j ms h=>by simp at h),rfl,Below.refl _ _⟩
  case round=>
   obtain ⟨i,a1,c1,Fv,vs,rfl,rfl,hi,hFl,hrow,hat,heq,hbr⟩:=hrel
   by_cases hlt:i<l.length
   ·have hlen:=(Xe2 HX)
    have hlt':(i:Int)<(n1:Int):=by omega
    obtain ⟨px,hpx⟩:∃px,l[i]?=some px:=⟨_,List.getElem?_eq_getElem hlt⟩
    obtain ⟨p,x⟩:=px
    obtain ⟨q0,u,q1,hu⟩:=(Xe4 H1).get hpx
    obtain ⟨t0,u0,rfl⟩:=hu.face
    rw[Nat.zero_add] at q0 q1
    have q0:=(hbr.cell (p:=⟨g1,i*2,none⟩) (Xo1 H1)).trans q0
    have q1:=(hbr.cell (p:=⟨g1,i*2+1,none⟩) (Xo1 H1)).trans q1
    have hgx:Q3u n1 x:=(Xo1 HX) _ (List.mem_of_getElem? hpx)
    have hbb:Below wr.heap.size wr (wr.alloc (.cells #[.int .i64 (p:Int),.iface t0 u0] 84)):=(Below.refl _ _).alloc (Nat.le_refl _) _
    have hh:=heap_alloc_new wr (.cells #[.int .i64 (p:Int),.iface t0 u0] 84)
    have m0:(wr.alloc (.cells #[.int .i64 (p:Int),.iface t0 u0] 84)).cell? ⟨wr.heap.size,0,none⟩=some (.int .i64 (p:Int)):=by rw[cell_of_row _ _ _ _ _ _ hh];rfl
    have m1:(wr.alloc (.cells #[.int .i64 (p:Int),.iface t0 u0] 84)).cell? ⟨wr.heap.size,1,none⟩=some (.iface t0 u0):=by rw[cell_of_row _ _ _ _ _ _ hh];rfl
    have hbx:=Below.next0 hbr hbb
    have hbw:=Below.next0 (Xo0 H1) hbx
    have hcall:=Qkp n1 hk1 hk4 x hgx _ _ (hu.step' hbx) ((Xe3 H).step hbw)
    obtain ⟨Z,hZ⟩:∃Z,Q1k n1 x=Z:=⟨_,rfl⟩
    rw[hZ] at hcall
    have hlx:=Q0f wr (.cells #[.int .i64 (p:Int),.iface t0 u0] 84)
    have heq2:=heq
    rw[Qe4 hpx,Q2m,hZ] at heq2
    have HR:=Xh11 hFl hrow hat heq2 hbr hbx hbw hcall hlx hbb hZ
    clear hFl hrow hat heq heq2 hbr hbx hbw hcall hlx hbb hgx hu hpx hh hZ
    cases Z with
    |error er=>
     have her:(er==0)=false:=beq_eq_false_iff_ne.2 (Q4s n1 x er (Xe10 HR))
     have hX5:X=.error (p,er):=by rw[(Xo0 HX),(Xo3 HR)]
     have HX5:=Lib.hid hX5
     clear hX5
     go_wp2_with (go_at_call_of 44 (Value.agg #[.int .i64 (n1:Int)]);refine (Xo7 HR).mono ?_;rintro r w3 ⟨hb3,a3,l3,c3,rfl⟩;(have m0:=(hb3.cell (p:=⟨wr.heap.size,0,none⟩) (Xo8 HR)).trans m0);have H3:=Lib.hid hb3;clear hb3)
     go_quiet (fail)
     go_wp2_with fail
     exact ⟨rfl,.tuple #[.slice none 0 0,.int .i64 (p:Int),.int .i64 er],by simp[results,go_sem],Q85.err HX5.out (Below.drewN' (Below.next0 (Xo6 HR) H3.out) _)⟩
    |ok P=>
     go_upto_region 11 with (go_at_call_of 44 (Value.agg #[.int .i64 (n1:Int)]);refine (Xo7 HR).mono ?_;rintro r w3 ⟨hb3,a3,l3,c3,ms3,rfl,hm3,ht3,hr3⟩;have H3:=Xh4 hb3 hm3 ht3 hr3;clear hb3 hm3 ht3 hr3)
     obtain ⟨hi0,hz0,hz1,hz2⟩:=HI.out
     have hb3r:=Below.next0 (Xo9 HR) (Xo0 H3)
     have hb3l:=Below.next0 (Xo5 HR) (Xo0 H3)
     have hrow3:=(Xo1 HR).step hb3r
     have hb4l:=hb3l.alloc hb3l.size (.cells #[.slice a3 l3 c3] 25)
     obtain ⟨g6,c6,w6,hrun6,hrow6,hgr6,hat6⟩:=Q1f (P:=Tryz.prog) Sl (w3.alloc (.cells #[.slice a3 l3 c3] 25)) 22 22 25 i0 _ 1 24 Tryz.underlying22 hi0 hz0 hz1 hz2 rfl (by intro u hu;simp[Value.cells] at hu;subst hu;exact ⟨_,_,_,rfl⟩) wl.heap.size hb4l.size a1 i c1 vs (hrow3.step ((Below.refl _ _).alloc (Nat.le_refl _) _)) w3.heap.size 1 1 [.slice a3 l3 c3] rfl (World.news_of_block (cs:= #[.slice a3 l3 c3]) (heap_alloc_new _ _)) (by simp[Value.oneCell']) (by intro u hu;simp at hu;subst hu;exact ⟨_,_,_,rfl⟩) (by decide) (by omega) (by decide) (by decide)
     have HV:=Xh7 hb3r hb3l hrow3 hb4l hrow6 hgr6 hat6
     clear hb3r hb3l hrow3 hb4l hrow6 hgr6 hat6 hi0 hz0 hz1 hz2
     go_wp2_with (at_builtin;refine Q0a rfl (.tmp 42) (.tmp 44) 22 22 rfl _ _ rfl rfl _ _ hrun6 ?_)
     obtain ⟨hb3r,hb3l,hrow3,hb4l,hrow6,hgr6,hat6⟩:=HV.out
     have hrow4:=hrow3.step ((Below.refl _ _).alloc (Nat.le_refl _) (.cells #[.slice a3 l3 c3] 25))
     have hb6:Below wl.heap.size wl w6:=hb4l.trans ⟨hgr6.os,hgr6.tape,hgr6.output,hgr6.size,fun z hz=>hgr6.block z (Nat.lt_of_lt_of_le hz hb4l.size) (fun e=>by
      have:=hrow4.1.row_le z e.symm;omega)⟩
     have hstay:∀{a:Option Addr} {n c:Nat} {ms:List Q05},Q0c w3 a n c ms->Q0c w6 a n c ms:=fun h=>(h.step ((Below.refl _ _).alloc (Nat.le_refl _) (.cells #[.slice a3 l3 c3] 25))).kept _ hgr6 hrow4.sl
     refine ⟨⟨i+1,_,c6,Fv++[ms3],vs++[.slice a3 l3 c3],rfl,congrArg (Value.int .i64) (by omega),hlt,by rw[List.length_append,(Xo0 HR)];rfl,hrow6,fun j ms hj=>?_,?_,hb6⟩,by simp only[intOf];omega⟩
     ·have hvl:vs.length=i:=by have:=(Xo1 HR).1.len;omega
      by_cases hji:j<i
      ·rw[List.getElem?_append_left (by rw[(Xo0 HR)];exact hji)] at hj
       obtain ⟨p',n',d',g1',g2',g3'⟩:=(Xo2 HR) j ms hj
       exact ⟨p',n',d',by rw[List.getElem?_append_left (by omega)];exact g1',hstay (g2'.step hb3r),g3'⟩
      ·rw[List.getElem?_append_right (by rw[(Xo0 HR)];omega),(Xo0 HR)] at hj
       have hj0:j-i=0:=by
        have:=(List.getElem?_eq_some_iff.1 hj).1
        simp at this;omega
       rw[hj0] at hj
       simp only[List.getElem?_cons_zero,Option.some.injEq] at hj
       subst hj
       exact ⟨a3,l3,c3,by rw[List.getElem?_append_right (by omega),hvl,hj0];rfl,hstay (Xo1 H3),(Xe3 H3)⟩
     ·rw[(Xo3 HR),List.map_append,<-(Xo2 H3)];rfl
   ·have hlen:=(Xe2 HX)
    have hlt':¬((i:Int)<(n1:Int)):=by omega
    have hie:i=l.length:=by omega
    rw[hie,List.drop_length,Q2m] at heq
    have HS:=Xh5 hFl hrow hat heq hbr
    have hin:i=n1:=by omega
    have HN:=Lib.hid hin
    clear hin
    clear hFl hrow hat heq hbr hie hlen
    go_wp2_with fail
    refine ⟨rfl,.tuple #[.slice a1 i c1,.int .i64 0,.int .i64 0],by simp[results,go_sem],⟨Below.next0 (Xo0 H1) (Xe4 HS),?_⟩,fun b o n c p e h=>?_⟩
    rotate_left
    ·simp only[Ending.returned.injEq,Value.tuple.injEq] at h
     have h1:=congrArg (fun z=>z[0]?) h
     simp at h1
     obtain ⟨rfl,_,_⟩:=h1
     have h2:=(Xo0 H1).size
     rcases (Xo1 HS).1.form with ⟨h3,_⟩|⟨g,cur,h3,h4,_⟩
     ·cases h3
     ·cases h3;omega
    rw[(Xo0 HX),(Xo3 HS)]
    refine ⟨a1,i,c1,Fv,rfl,Qq8.done (Xo0 HS) (Xo1 HS) (Xo2 HS),rfl,?_⟩
    rw[Q5b,(Xo0 HS),HN.out]
    refine ⟨hk1,hk4,fun ms hm=>?_⟩
    obtain ⟨j,hj,rfl⟩:=List.getElem_of_mem hm
    obtain ⟨_,_,_,_,_,h⟩:=(Xo2 HS) j _ (List.getElem?_eq_getElem hj)
    exact h
theorem Q6y (s:ByteArray) (w:World) (hs:s.size<=1000000) (hT:Q24 w):
 Calls Tryz.prog 17 #[.string s] w (Q84 w (Q4o s.data.toList)):=(Q6x s w hs hT).mono fun _ _ h=>h.1
end Go.Proofs.YtdilmfakkppgpaaGreatDoor
namespace Go.Proofs.YtdilmfakkppgpaaGreatDoor
open Go.RowKit Go.Shelf Go.Sort Go.Lib
theorem Q93 {w:World} (k:Nat) (os:Array Obj):Below w.heap.size w (grow (w.drewN k) os):=
 ⟨rfl,rfl,rfl,by
   show w.heap.size<=(w.heap++os).size
   simp,fun g hg=>heap_grow_old w k os g hg⟩
theorem Qum (u:Nat) (hu64:u<18446744073709551616) (w:World) (htab:Lib.TabIs Tryz.prog w "internal/strconv.uint64pow10" .u64 Lib.pow10Tab):
 Calls Tryz.prog 181 #[.int .u64 (u:Int),.int .i64 10] w fun e w'=>e=.returned (.string ⟨(Lib.decDigits u).toArray⟩)/\Below w.heap.size w w':=by
 by_cases hi:u<100
 ·have hiI:(u:Int)<100:=by omega
  have hsm:=fun W=>Tryz.Qxi u hi W
  go_enter Tryz.func181,Tryz.ntmps181
  go_wp2_with (refine (hsm _).mono ?_;rintro e w' ⟨rfl,rfl⟩)
  go_ret
  exact ⟨rfl,Below.refl _ _⟩
 ·have hiI:¬(u:Int)<100:=by omega
  have hu1:1<=u:=by omega
  have hnd20:Lib.nDigits u<=20:=by have:=Lib.numDigits_eq u hu1 hu64;split at this <;> omega
  have hal:Tryz.prog.arrayLen 209=24:=by kernel_rfl
  have hel:Tryz.prog.elem 209=5:=by kernel_rfl
  have hsl1:∀W,(Instr.sliceAt 209 (.pointer (some ⟨w.heap.size,0,none⟩)) none (some (.int .i64 (Lib.nDigits u:Int))) none).run Tryz.prog W=.ok (.slice (some ⟨w.heap.size,0,none⟩) (Lib.nDigits u) 24) W:=fun W=>by
   rw[run_sliceAt_array_h W 209 ⟨w.heap.size,0,none⟩ (by kernel_rfl) .i64 (Lib.nDigits u:Int) (by omega) (by rw[hal];omega)]
   go_simp
   try omega
  have hH0:=Lib.holds_zero0 w 209 (Lib.nDigits u) (by omega)
  have hfmt:=Tryz.Qxo w.heap.size 0 24 u (Array.replicate (Lib.nDigits u) 0) (w.alloc (.cells Lib.zeros24 209)) hH0 (by rw[Array.size_replicate];exact Lib.lt_pow_nDigits u) hu64 (by rw[Array.size_replicate];omega)
  rw[Array.size_replicate] at hfmt
  have hnum:=Tryz.Qxl u hu1 hu64 (w.alloc (.cells Lib.zeros24 209)) (Lib.tabIs_alloc htab _)
  have HH0:=Lib.hid hH0
  clear hH0 hal hel
  go_enter Tryz.func181,Tryz.ntmps181
  go_wp2_with (first
   |(refine hnum.mono ?_;rintro e w' ⟨rfl,rfl⟩)
   |(refine hfmt.mono ?_;rintro e w' ⟨rfl,k,v',dk,rfl,hF⟩;
     have hcv:(convert 33 9 (.slice (some ⟨w.heap.size,0,none⟩) (Lib.nDigits u) 24)).run Tryz.prog ((putRow (fun (b:UInt8)=>Value.int .u8 (b.toNat:Int)) (w.alloc (.cells Lib.zeros24 209)) w.heap.size 0 dk).drewN k)=.ok (.string ⟨(Lib.decDigits u).toArray⟩) ((putRow (fun (b:UInt8)=>Value.int .u8 (b.toNat:Int)) (w.alloc (.cells Lib.zeros24 209)) w.heap.size 0 dk).drewN k):=by {
      have h:=run_convert_bytes_back (P:=Tryz.prog) ((putRow (fun (b:UInt8)=>Value.int .u8 (b.toNat:Int)) (w.alloc (.cells Lib.zeros24 209)) w.heap.size 0 dk).drewN k) 33 9 5 ⟨w.heap.size,0,none⟩ 24 (Lib.decDigits u) (by kernel_rfl) (by kernel_rfl) (by kernel_rfl) (fun j hj=>by
       rw[Lib.row_is_numeral hF j hj,Lib.add_plain,World.cell?_drewN]
       exact cell?_putRow (fun (b:UInt8)=>Value.int .u8 (b.toNat:Int)) _ w.heap.size 0 _ dk HH0.out (by rw[hF.size,Array.size_replicate]) j (by rw[hF.size];rw[Lib.decDigits_length] at hj;exact hj))
      rw[Lib.decDigits_length] at h
      exact h };
     obtain ⟨os,eo⟩:=Lib.fin_at w (.cells Lib.zeros24 209) dk k 0;
     have HEO:=Xh2 eo hF;clear eo hF hfmt hnum;
     generalize ((putRow (fun (b:UInt8)=>Value.int .u8 (b.toNat:Int)) (w.alloc (.cells Lib.zeros24 209)) w.heap.size 0 dk).drewN k)=W4 at*))
  go_ret
  refine ⟨rfl,?_⟩
  rw[(Xo0 HEO)]
  exact Q93 k os
theorem Qa9 (u:Nat) (hu64:u<18446744073709551616) (w:World) (htab:Lib.TabIs Tryz.prog w "internal/strconv.uint64pow10" .u64 Lib.pow10Tab):
 Calls Tryz.prog 154 #[.int .u64 (u:Int),.int .i64 10] w fun e w'=>e=.returned (.string ⟨(Lib.decDigits u).toArray⟩)/\Below w.heap.size w w':=by
 have h:=Qum u hu64 w htab
 go_enter Tryz.func154,Tryz.ntmps154
 go_wp2_with (refine h.mono ?_;rintro e w1 ⟨rfl,hb⟩;have HB:=Lib.hid hb;clear hb)
 go_ret
 exact ⟨rfl,HB.out⟩
end Go.Proofs.YtdilmfakkppgpaaGreatDoor
namespace Go.Proofs.YtdilmfakkppgpaaGreatDoor
open Go.RowKit
theorem Q9k:(Tryz.prog.info? 66).map (·.size)=some 2:=by kernel_rfl
theorem Qge:liesAt Tryz.prog Tryz.prog.depth 66 (2 / Tryz.prog.cellsOf 66) 0 66 1=true:=by kernel_rfl
abbrev Q33 (B b:Nat) (p:Value) (l:List UInt8) (w:World):Prop:=Lib.BuilderAt 66 5 B b p (Lib.byteCells l) w
theorem Qgf (b:Nat) (w:World) (h0:w.cell? ⟨b,0,none⟩=some (.pointer (some ⟨b,0,none⟩))):
 Calls Tryz.prog 66 #[.pointer (some ⟨b,0,none⟩)] w fun e w'=>e=.returned (.tuple #[])/\w=w':=by
 obtain ⟨j,hj,_⟩:=Option.map_eq_some_iff.1 Q9k
 go_enter Tryz.func66,Tryz.ntmps66
 go_wp2_with fail
 rw[Lib.run_neq_ptr_same w _ Tryz.underlying64 hj]
 go_wp2_with fail
 go_end0
 exact ⟨rfl,rfl⟩
theorem Qd4 (b:Nat) (w:World) (h0:w.cell? ⟨b,0,none⟩=some (.pointer none)) (hsh:w.shape? b=some (66,2)) (hfz:w.frozen? ⟨b,0,none⟩=false):
 Calls Tryz.prog 66 #[.pointer (some ⟨b,0,none⟩)] w fun e w'=>e=.returned (.tuple #[])/\w'=w.setCell ⟨b,0,none⟩ (.pointer (some ⟨b,0,none⟩)):=by
 obtain ⟨j,hj,hjs⟩:=Option.map_eq_some_iff.1 Q9k
 go_enter Tryz.func66,Tryz.ntmps66
 go_wp2_with fail
 rw[Lib.run_to_unsafe w ⟨b,0,none⟩ Tryz.underlying64 Tryz.underlying161 hj (by rw[hjs];decide) hsh (Nat.zero_lt_succ 1)]
 simp only[Result.andThen]
 rw[Oper.upon_value]
 go_wp2_with fail
 rw[run_callFunc_extern Tryz.func110 (by kernel_rfl) (by kernel_rfl) (by kernel_rfl) (e:=Extern.AbiNoEscape.same) (by kernel_rfl)]
 rw[Lib.run_noEscape]
 simp only[Result.andThen]
 rw[Oper.upon_value]
 go_wp2_with fail
 rw[Lib.run_from_unsafe w ⟨b,0,none⟩ Tryz.underlying161 Tryz.underlying64 hj hsh Qge]
 simp only[Result.andThen]
 rw[Oper.upon_value]
 go_wp2_with fail
 go_end0
 exact ⟨rfl,rfl⟩
theorem Qsk (B b:Nat) (l:List UInt8) (w:World) (h:Lib.IsBuilder 66 5 B b (Lib.byteCells l) w):
 Calls Tryz.prog 66 #[.pointer (some ⟨b,0,none⟩)] w fun e w'=>e=.returned (.tuple #[])/\Q33 B b (.pointer (some ⟨b,0,none⟩)) l w'/\Below B w w'/\w'.heap.size=w.heap.size:=by
 rcases h with h|h
 ·refine (Qd4 b w h.cell0 h.shape h.frozen0).mono ?_
  rintro e w' ⟨rfl,rfl⟩
  exact ⟨rfl,h.used _,(Below.refl B w).setCell (p:=⟨b,0,none⟩) h.1 _,by simp⟩
 ·refine (Qgf b w h.cell0).mono ?_
  rintro e w' ⟨rfl,rfl⟩
  exact ⟨rfl,h,Below.refl B _,rfl⟩
theorem Q86 (a b:List UInt8):Lib.byteCells (a++b)=Lib.byteCells a++Lib.byteCells b:=by simp[Lib.byteCells]
theorem Qq9 (B b:Nat) (l t:List UInt8) (w:World) (h:Lib.IsBuilder 66 5 B b (Lib.byteCells l) w) (hlen:l.length+t.length<=140737488355328) (hBw:B<=w.heap.size):
 Calls Tryz.prog 31 #[.pointer (some ⟨b,0,none⟩),sv t] w fun e w'=>e=.returned (.tuple #[.int .i64 (t.length:Int),.nilIface])/\Q33 B b (.pointer (some ⟨b,0,none⟩)) (l++t) w'/\Below B w w':=by
 obtain ⟨i0,hi,hz0,hz1,hz2⟩:=info_parts Qnn
 have HI:=Lib.hid h
 clear h
 go_enter Tryz.func31,Tryz.ntmps31
 go_wp2_with (refine (Qsk B b l _ HI.out).mono ?_)
 rintro e w1 ⟨rfl,h1,hb1,hsz⟩
 obtain ⟨hB,v,hbk,hown,hne⟩:=h1
 have hsz1:B<=w1.heap.size:=by omega
 have HSZ:=Lib.hid hsz
 clear hsz
 have c0:w1.cell? ⟨b,0,none⟩=some (.pointer (some ⟨b,0,none⟩)):=by rw[Lib.cell_of_heap hbk];rfl
 have c1:w1.cell? ⟨b,1,none⟩=some v:=by rw[Lib.cell_of_heap hbk];rfl
 have hlt:b<w1.heap.size:=(Array.getElem?_eq_some_iff.1 hbk).1
 have HBK:=Lib.hid hbk
 have hcl:(Lib.byteCells l).length+(⟨t.toArray⟩:ByteArray).size<=140737488355328:=by rw[Lib.byteCells_length];exact hlen
 have hcm:(Lib.byteCells l).length+(⟨t.toArray⟩:ByteArray).size<=maxLen:=by unfold maxLen;omega
 clear hbk
 go_wp2_with (at_builtin;refine Lib.wpList_append_own_string _ rfl _ _ 33 9 rfl B 5 i0 Tryz.underlying33 Tryz.underlying9 hi hz0 hz1 hz2 _ _ _ rfl hown ⟨t.toArray⟩ rfl hcm hcl hsz1 ?_)
 intro v' w2 hown' hgrow _
 have hb2:w2.heap[b]?=some (.cells #[.pointer (some ⟨b,0,none⟩),v] 66 (0,0)):=by
  rw[hgrow.block b hlt (fun e=>hne e.symm)]
  exact HBK.out
 have d0:w2.cell? ⟨b,0,none⟩=some (.pointer (some ⟨b,0,none⟩)):=by rw[Lib.cell_of_heap hb2];rfl
 have d1:w2.cell? ⟨b,1,none⟩=some v:=by rw[Lib.cell_of_heap hb2];rfl
 have f1:w2.frozen? ⟨b,1,none⟩=false:=Lib.frozen_of_heap hb2 1
 obtain ⟨ao,n',cap,rfl⟩:∃ao n' cap,v'=.slice ao n' cap:=by
  rcases hown'.2 with ⟨hv,_⟩|⟨g,cap,cur,hv,_⟩
  ·exact ⟨_,_,_,hv⟩
  ·exact ⟨_,_,_,hv⟩
 have HE:=Xh4 hb2 hown' hgrow hb1
 clear hb2 hown' hgrow hb1 hcl hcm
 go_wp2_with fail
 go_ret2
 obtain ⟨hb2,hown',hgrow,hb1⟩:=HE.out
 refine ⟨rfl,?_,?_⟩
 ·refine Lib.BuilderAt.put (T:=66) (e:=5) hB hb2 (bs':=Lib.byteCells (l++t)) ?_ (by decide)
  rw[Q86]
  have e1:Lib.strCells ⟨t.toArray⟩=Lib.byteCells t:=rfl
  rw[<-e1,List.length_append,Lib.strCells_length]
  exact hown'
 ·exact (hb1.grown hgrow (by omega) (fun k hk=>(hown.lt k hk).1)).setCell (p:=⟨b,1,none⟩) hB _
theorem Q33.call {B b:Nat} {p:Value} {l:List UInt8} {w w':World} (h:Q33 B b p l w) (hb:Below w.heap.size w w'):Q33 B b p l w':=by
 obtain ⟨hB,v,hbk,hown,hne⟩:=h
 refine ⟨hB,v,(hb.block _ (Array.getElem?_eq_some_iff.1 hbk).1).trans hbk,⟨hown.1,?_⟩,hne⟩
 rcases hown.2 with h2|⟨g,cap,cur,hv,hg,hh,hr⟩
 ·exact .inl h2
 ·exact .inr ⟨g,cap,cur,hv,hg,(hb.block g (Array.getElem?_eq_some_iff.1 hh).1).trans hh,hr⟩
def Q9v (B b:Nat) (l:List UInt8) (w:World):Prop:=Lib.IsBuilder 66 5 B b (Lib.byteCells l) w
theorem Q9v.call {B b:Nat} {l:List UInt8} {w w':World} (h:Q9v B b l w) (hb:Below w.heap.size w w'):Q9v B b l w':=by
 rcases h with h|h
 ·exact .inl (Q33.call h hb)
 ·exact .inr (Q33.call h hb)
theorem Q9v.new (B:Nat) (w:World) (hB:B<=w.heap.size):Q9v B w.heap.size [] (w.alloc (.cells #[.pointer none,.slice none 0 0] 66)):=
 .inl ⟨hB,_,heap_alloc_new _ _,⟨rfl,.inl ⟨rfl,rfl⟩⟩,by simp[Value.ownBlock]⟩
end Go.Proofs.YtdilmfakkppgpaaGreatDoor
namespace Go.Proofs.YtdilmfakkppgpaaGreatDoor
open Go.RowKit WordsM DecM
theorem Qsl:(Tryz.prog.info? 9).map (fun i=>(i.zero,i.size,i.bytes))=some (some (.string ⟨#[]⟩),1,16):=by kernel_rfl
theorem Qaa (t:ByteArray):∀u∈[Value.string t],u.oneCell'=true:=by
 intro u hu;rw[List.mem_singleton] at hu;subst hu;rfl
theorem Q5z (m:Nat):Lib.repeatL [48] m=List.replicate m (48:UInt8):=by
 induction m with
 |zero=>rfl
 |succ m ih=>rw[List.replicate_succ,<-ih];rfl
def rev (xs:List (List UInt8)):List UInt8:=xs.reverse.flatten
theorem Qkq (xs:List (List UInt8)) (t:List UInt8):rev (xs++[t])=t++rev xs:=by simp[rev]
theorem Qun (xs:List (List UInt8)) (h:∀x∈xs,1<=x.length):xs.length<=(rev xs).length:=by
 induction xs with
 |nil=>simp[rev]
 |cons x r ih=>
  have h1:=ih fun y hy=>h y (by simp[hy])
  have h2:=h x (by simp)
  simp only[rev,List.reverse_cons,List.flatten_append,List.length_append,List.length_cons] at h1⊢
  simp only[List.flatten_cons,List.flatten_nil,List.append_nil]
  omega
def Qd5 (v u:Nat) (xs:List (List UInt8)):Prop:=(u=0->rev xs=dec v)/\(u≠0->dec v=dec u++rev xs)/\∀x∈xs,1<=x.length
theorem Qd5.len {v u:Nat} {xs:List (List UInt8)} (h:Qd5 v u xs):xs.length<=(dec v).length/\(rev xs).length<=(dec v).length:=by
 have h1:=Qun xs h.2.2
 by_cases h0:u=0
 ·rw[<-h.1 h0];exact ⟨h1,Nat.le_refl _⟩
 ·have h2:=congrArg List.length (h.2.1 h0)
  rw[List.length_append] at h2
  omega
theorem Qd5.next {v u q r:Nat} {xs:List (List UInt8)} (h:Qd5 v u xs) (hu:u≠0) (hq:u=q*10^19+r) (hr:r<10^19):Qd5 v q (xs++[if q=0 then dec r else List.replicate (19-(dec r).length) 48++dec r]):=by
 have h1:=Q3s r
 refine ⟨fun h0=>?_,fun h0=>?_,fun x hx=>?_⟩
 ·rw[if_pos h0,Qkq,h.2.1 hu,hq,h0];simp
 ·rw[if_neg h0,Qkq,h.2.1 hu,hq,Qt5 q (by omega) 19 r hr,Qt6 19 r (by decide) hr];simp
 ·rcases List.mem_append.1 hx with hx|hx
  ·exact h.2.2 x hx
  ·rw[List.mem_singleton] at hx
   subst hx
   split
   ·exact h1
   ·rw[List.length_append];omega
theorem Qiw {w w':World} {a:Option Addr} {n c:Nat} {ls:List Nat} {row:Option Nat} (h:WordsIn w a n c ls) (hg:w.grownBy w' row) (hne:∀x,a=some x->some x.block≠row):WordsIn w' a n c ls:=by
 refine ⟨h.len,h.cap,h.most,h.low,?_⟩
 rcases h.rd with h0|⟨b,o,rfl,hb,hc⟩
 ·exact .inl h0
 ·have hbk:=hg.block b hb (hne _ rfl)
  have hb':b<w'.heap.size:=by
   have h1:w.heap[b]?=some w.heap[b]:=Array.getElem?_eq_getElem hb
   rw[<-hbk] at h1
   exact (Array.getElem?_eq_some_iff.1 h1).1
  exact .inr ⟨b,o,rfl,hb',fun j x hx=>(World.cell?_of_block (a:=⟨b,o+j,none⟩) hbk).trans (hc j x hx)⟩
theorem Q87 {wr w2 w5:World} {O:Obj} {aq al a3:Option Addr} {nq cq q:Nat} (hW:WordsIn w2 aq nq cq (dig (2^64) q)) (hq0:q≠0) (hfr:∀x,aq=some x->wr.heap.size<=x.block) (hal:∀y,al=some y->y.block<wr.heap.size)
 (hg:(w2.alloc O).grownBy w5 (al.map (·.block))) (hat:a3.map (·.block)=al.map (·.block)∨a3.map (·.block)=some (w2.alloc O).heap.size):WordsIn w5 aq nq cq (dig (2^64) q)/\∀x y,aq=some x->a3=some y->x.block≠y.block:=by
 have hlt:∀x,aq=some x->x.block<w2.heap.size:=fun x e=>by
  rcases hW.rd with h0|⟨b,o,rfl,hb,_⟩
  ·exact absurd ((Q4m (by decide)).1 h0) hq0
  ·injection e with e;subst e;exact hb
 refine ⟨Qiw (hW.step ((Below.refl _ _).alloc (Nat.le_refl _) O)) hg fun x e e2=>?_,fun x y ex ey e=>?_⟩
 ·cases hal2:al with
  |none=>rw[hal2] at e2;cases e2
  |some z=>
   rw[hal2] at e2
   simp only[Option.map_some,Option.some.injEq] at e2
   have:=hfr x e;have:=hal z hal2;omega
 ·have h1:=hlt x ex
  have h2:=hfr x ex
  rw[ey,Option.map_some] at hat
  rcases hat with h3|h3
  ·cases hal2:al with
   |none=>rw[hal2] at h3;cases h3
   |some z=>
    rw[hal2] at h3
    simp only[Option.map_some,Option.some.injEq] at h3
    have:=hal z hal2;omega
  ·simp only[Option.some.injEq] at h3
   rw[World.size_alloc] at h3
   omega
theorem Qix (a:Option Addr) (n c:Nat) (v:Nat) (w:World) (h:WordsIn w a n c (dig (2^64) v)) (hn:n<=64) (hdv:(dec v).length<=1281) (htab:∀W,Below w.heap.size w W->Lib.TabIs Tryz.prog W "internal/strconv.uint64pow10" .u64 Lib.pow10Tab):
 Calls Tryz.prog 114 #[.slice a n c] w fun e w'=>e=.returned (sv (dec v))/\Below w.heap.size w w':=by
 by_cases hv0:v=0
 ·have hn0:n=0:=by have:=h.len;rw[hv0,Q0x] at this;exact this.symm
  subst hn0 hv0
  have hd0:dec 0=[48]:=Q1z (by decide)
  have HD:=Lib.hid hd0
  clear h hd0 htab hdv
  go_enter Tryz.func114,Tryz.ntmps114
  go_wp2_with fail
  go_ret
  rw[HD.out]
  exact ⟨rfl,Below.refl _ _⟩
 ·have hn0:n≠0:=fun e=>hv0 ((Q4m (B:=2^64) (by decide)).1 (List.length_eq_zero_iff.1 (by rw[h.len,e])))
  have hn0I:((n:Int)==0)=false:=by rw[beq_eq_false_iff_ne];omega
  obtain ⟨i0,hi0,hz0,hz1,hz2⟩:=info_parts Qsl
  have HI:=Xh4 hi0 hz0 hz1 hz2
  have H:=Xh3 h htab hv0
  clear h htab hv0 hi0 hz0 hz1 hz2
  go_enter Tryz.func114,Tryz.ntmps114
  go_wp2_with fail
  go_loopg [0,3] v (fun g wv lv wr=>∃(u:Nat) (ao:Option Addr) (no co:Nat) (al:Option Addr) (k cl:Nat) (xs:List (List UInt8)),wv=.slice ao no co/\lv=.slice al k cl/\no<=64/\WordsIn wr ao no co (dig (2^64) u)/\Row wr w.heap.size 9 1 al k cl (xs.map sv)/\xs.length=k/\Qd5 v u xs/\g=u/\Below w.heap.size w wr/\(u≠0->∀x y,ao=some x->al=some y->x.block≠y.block))
  case atStart=>exact ⟨v,a,n,c,none,0,0,[],rfl,rfl,hn,(Xo0 H),Row.nil_ _ _ _ _,rfl,⟨fun e=>absurd e (Xe2 H),fun _=>by simp[rev],fun x hx=>by simp at hx⟩,rfl,Below.refl _ _,fun _ x y _ e=>by cases e⟩
  case round=>
   obtain ⟨u,ao,no,co,al,k,cl,xs,rfl,rfl,hno,hW,hrow,hxl,hrel2,hg,hb,hdis⟩:=hrel
   by_cases hu:u=0
   ·subst hu
    have hno0:no=0:=by have:=hW.len;rw[Q0x] at this;exact this.symm
    subst hno0
    have hrv:=hrel2.1 rfl
    have hk:=hrel2.len
    have hk2:k<=1281:=by omega
    have hkI:∀W,Below wr.heap.size wr W->∀i t,xs[i]?=some t->∃g,al=some ⟨g,0,none⟩/\W.cell? ⟨g,i,none⟩=some (sv t):=fun W hbW i t ht=>by
     obtain ⟨g,hg1,_,hg2,hc⟩:=hrow.at_ (j:=i) (x:=sv t) (by rw[List.getElem?_map,ht];rfl)
     exact ⟨g,hg1,(hbW.cell (p:=⟨g,i,none⟩) hg2).trans hc⟩
    have hlen:(rev xs).length<=1281:=by omega
    have hba:Below wr.heap.size wr (wr.alloc (.cells #[.pointer none,.slice none 0 0] 66)):=(Below.refl _ _).alloc (Nat.le_refl _) _
    have hbn:=Q9v.new wr.heap.size wr (Nat.le_refl _)
    have HX:=Xh6 hrv hkI hlen hb hba hbn
    clear hrv hk hkI hlen hb hba hbn hrow hrel2 hdis hW hg
    generalize wr=W1 at*
    go_wp2_with fail
    go_loopw [10] (fun iv wz=>∃j:Nat,iv=.int .i64 ((j:Int)-1)/\j<=k/\Q9v W1.heap.size W1.heap.size (rev (xs.drop j)) wz/\Below W1.heap.size W1 wz) (fun iv _=>(intOf iv+1).toNat)
    case atStart=>exact ⟨k,rfl,Nat.le_refl _,by rw[List.drop_eq_nil_of_le (by omega)];exact (Xe5 HX),(Xo4 HX)⟩
    case round=>
     obtain ⟨j,rfl,hj,hbu,hbz⟩:=hrel
     cases j with
     |zero=>
      rw[List.drop_zero,(Xo0 HX)] at hbu
      have HB:=Xh2 hbu hbz
      clear hbu hbz
      go_wp2_with (refine (Tryz.Qww W1.heap.size W1.heap.size _ _ (Xo0 HB) (Xe1 HB).size).mono ?_;rintro e w3 ⟨rfl,hb5⟩;have HB5:=Lib.hid hb5;clear hb5)
      go_ret
      exact ⟨rfl,Below.next0 (Xo3 HX) ((Xe1 HB).trans HB5.out)⟩
     |succ j=>
      obtain ⟨t,ht⟩:∃t,xs[j]?=some t:=⟨_,List.getElem?_eq_getElem (by omega)⟩
      obtain ⟨g,rfl,hct⟩:=(Xo1 HX) _ hbz j t ht
      have hdrop:rev (xs.drop j)=rev (xs.drop (j+1))++t:=by
       have e1:=List.getElem?_eq_some_iff.1 ht
       rw[List.drop_eq_getElem_cons e1.1,e1.2]
       simp[rev]
      have hl:(rev (xs.drop (j+1))).length+t.length<=1281:=by
       have h1:xs=xs.take j++xs.drop j:=(List.take_append_drop j xs).symm
       have h2:(rev (xs.drop j)).length<=(rev xs).length:=by
        have h3:rev xs=rev (xs.drop j)++rev (xs.take j):=by
         have h4:=congrArg rev h1
         rw[h4]
         unfold rev
         rw[List.reverse_append,List.flatten_append]
        rw[h3,List.length_append];omega
       rw[hdrop,List.length_append] at h2
       have:=(Xo2 HX)
       omega
      have hjI:((j+1:Nat):Int)-1=(j:Int):=by omega
      have hjk:(j:Int)<(k:Int):=by omega
      have HD:=Xh4 hdrop hbu hbz hl
      clear hdrop hbu hbz hl ht
      rw[hjI]
      go_wp2_with (refine (Qq9 W1.heap.size W1.heap.size _ t _ (Xo1 HD) (by have:=(Xe3 HD);omega) (Xo2 HD).size).mono ?_;rintro e w3 ⟨rfl,hb3,hb4⟩;have HB4:=Xh2 hb3 hb4;clear hb3 hb4)
      exact ⟨⟨j,rfl,by omega,by rw[(Xo0 HD)];exact .inr (Xo0 HB4),(Xo2 HD).trans (Xe1 HB4)⟩,by simp only[intOf];omega⟩
   ·have hno0:no≠0:=fun e=>hu ((Q4m (B:=2^64) (by decide)).1 (List.length_eq_zero_iff.1 (by rw[hW.len,e])))
    have hnoI:(0:Int)<(no:Int):=by omega
    have hba:Below wr.heap.size wr (wr.alloc (.cells #[.int .u64 10000000000000000000] 74)):=(Below.refl _ _).alloc (Nat.le_refl _) _
    have hdv1:=Qhv ao no co (dig (2^64) u) (some ⟨wr.heap.size,0,none⟩) 1 10000000000000000000 (wr.alloc (.cells #[.int .u64 10000000000000000000] 74)) (hW.step hba) (Qdl wr 10000000000000000000 (by decide) 74) (by omega) (by decide) (by rw[Q0r (by decide)];exact hu)
    rw[Q0r (by decide)] at hdv1
    obtain ⟨q,hq⟩:∃q,u / 10000000000000000000=q:=⟨_,rfl⟩
    obtain ⟨r,hr⟩:∃r,u%10000000000000000000=r:=⟨_,rfl⟩
    rw[hq,hr] at hdv1
    have hr19:r<10000000000000000000:=by rw[<-hr];exact Nat.mod_lt _ (by decide)
    have hrl:r<2^64:=Nat.lt_trans hr19 (by decide)
    have huq:u=q*10^19+r:=by rw[<-hq,<-hr,Nat.mul_comm];exact (Nat.div_add_mod u (10^19)).symm
    have hnx:=hrel2.next hu huq hr19
    have hqu:q<u:=by rw[<-hq];exact Nat.div_lt_self (by omega) (by decide)
    have hnq64:(dig (2^64) q).length<=64:=Nat.le_trans (Q1m (by decide) (Nat.le_of_lt hqu)) (by rw[hW.len];exact hno)
    have hdl19:(dec r).length<=19:=dec_len 19 r hr19 (by decide)
    have hk:=hrel2.len
    have hk2:k<=1281:=by omega
    have HDV:=Lib.hid hdv1
    have HBA:=Lib.hid hba
    have HBW:=Lib.hid hb
    have HTB:=Lib.hid (Xo1 H)
    have hal:∀y,al=some y->y.block<wr.heap.size:=fun y e=>by
     rcases hrow.form with ⟨h0,_⟩|⟨g,cur,h0,_,hg,_⟩
     ·rw[h0] at e;cases e
     ·rw[h0] at e;injection e with e;subst e;exact hg
    have HAL:=Xh2 hal hdis
    clear hal hdis
    have HRW:=Lib.hid (fun W (hbW:Below wr.heap.size wr W)=>hrow.call hbW)
    have HNX:=Xh5 hnx hqu hnq64 hg hb
    clear hdv1 hq hr huq hnx hqu hnq64 hrow hb hW hg hba hk hrel2
    by_cases hq0:q=0
    ·by_cases hr0:r=0
     ·skip
      have HQ0:=Lib.hid hq0
      have HR0:=Lib.hid (show (0:Nat)=0 from rfl)
      clear hq0
      subst hr0
      have hS:(dec 0).length<=19:=hdl19
      obtain ⟨t,ht⟩:∃t:List UInt8,t=dec 0:=⟨_,rfl⟩
      have htl:t.length<=40:=by rw[ht];omega
      have HT:=Lib.hid ht
      go_wp2_with (first
       |(go_at_call_of 153 ao;refine HDV.out.mono ?_;rintro e w1 ⟨aq,nq,cq,ar,nr,cr,rfl,hWq,hWr,hb1,hfr⟩;have HFR:=Lib.hid (fun x (e:aq=some x)=>Nat.le_trans HBA.out.size (hfr x e));clear hfr;obtain rfl:nq=0:=by { have:=hWq.len;rw[HQ0.out,Q0x] at this;exact this.symm };obtain rfl:nr=0:=by { have:=hWr.len;rw[HR0.out,Q0x] at this;exact this.symm };have HB1:=Xh2 hWq (Below.next0 HBA.out hb1);clear hWq hWr hb1)
       |(refine (Qa9 0 (by omega) _ (HTB.out _ (Below.next0 HBW.out (Xe1 HB1)))).mono ?_;rintro e w2 ⟨rfl,hb2⟩;have HB2:=Xh2 ((Xo0 HB1).step hb2) (Below.next0 (Xe1 HB1) hb2);clear hb2)
       |(at_builtin;refine Q0o rfl (.tmp 41) (.tmp 43) 77 rfl w _ 9 i0 _ 1 16 Tryz.underlying77 (Xo0 HI) (Xo1 HI) (Xo2 HI) (Xe3 HI) rfl (by decide) w.heap.size ((Below.next0 HBW.out (Xe1 HB2)).alloc (Below.next0 HBW.out (Xe1 HB2)).size _) ((Below.next0 HBW.out (Xe1 HB2)).alloc (Below.next0 HBW.out (Xe1 HB2)).size _).size al k cl _ rfl ((HRW.out _ (Xe1 HB2)).alloc _) ⟨w2.heap.size,0,none⟩ 1 1 [sv (dec 0)] rfl rfl (Q2w w2 #[sv (dec 0)] _ _) (Qaa _) (k+1) rfl (by omega) (by omega) ?_;intro a3 c3 w5 ho3 hg3 hb5 hat3;have HO:=Xh4 ho3 hb5 hg3 hat3;clear ho3 hg3 hb5 hat3))
      go_roundg q
      case measure=>have h1:=(Xo1 HNX);have h2:=(Xo3 HNX);omega
      case rel=>
       have h1:=(Xo0 HNX)
       rw[if_pos HQ0.out] at h1
       have hw0:0<=64:=by have h3:=(Xo0 HB2).len;have h4:=(Xo2 HNX);omega
       have hrw:Row w5 w.heap.size 9 1 a3 (k+1) c3 ((xs++[t]).map sv):=by
        have h5:=(Xo0 HO)
        rw[List.map_append,HT.out]
        exact h5
       exact ⟨q,aq,0,cq,a3,k+1,c3,xs++[t],rfl,rfl,hw0,⟨(Xo0 HB2).len,(Xo0 HB2).cap,(Xo0 HB2).most,(Xo0 HB2).low,.inl (by rw[HQ0.out];rfl)⟩,hrw,by rw[List.length_append,hxl];rfl,by rw[HT.out];exact h1,rfl,(Xo1 HO),fun h=>absurd HQ0.out h⟩
     ·skip
      have HQ0:=Lib.hid hq0
      have HR0:=Lib.hid hr0
      clear hq0 hr0
      have hS:(dec r).length<=19:=hdl19
      obtain ⟨t,ht⟩:∃t:List UInt8,t=dec r:=⟨_,rfl⟩
      have htl:t.length<=40:=by rw[ht];omega
      have HT:=Lib.hid ht
      go_wp2_with (first
       |(go_at_call_of 153 ao;refine HDV.out.mono ?_;rintro e w1 ⟨aq,nq,cq,ar,nr,cr,rfl,hWq,hWr,hb1,hfr⟩;have HFR:=Lib.hid (fun x (e:aq=some x)=>Nat.le_trans HBA.out.size (hfr x e));clear hfr;obtain rfl:nq=0:=by { have:=hWq.len;rw[HQ0.out,Q0x] at this;exact this.symm };have hd1:=Qnx (d:=r) hrl HR0.out;rw[hd1] at hWr;obtain rfl:nr=1:=hWr.len.symm;obtain ⟨gr,og,hre,hgr,hcr⟩:=hWr.rd.at_ (k:=0) (x:=r) rfl;rw[Nat.add_zero] at hcr;subst hre;have HB1:=Xh2 hWq (Below.next0 HBA.out hb1);clear hWq hWr hb1)
       |(refine (Qa9 r (by omega) _ (HTB.out _ (Below.next0 HBW.out (Xe1 HB1)))).mono ?_;rintro e w2 ⟨rfl,hb2⟩;have HB2:=Xh2 ((Xo0 HB1).step hb2) (Below.next0 (Xe1 HB1) hb2);clear hb2)
       |(at_builtin;refine Q0o rfl (.tmp 41) (.tmp 43) 77 rfl w _ 9 i0 _ 1 16 Tryz.underlying77 (Xo0 HI) (Xo1 HI) (Xo2 HI) (Xe3 HI) rfl (by decide) w.heap.size ((Below.next0 HBW.out (Xe1 HB2)).alloc (Below.next0 HBW.out (Xe1 HB2)).size _) ((Below.next0 HBW.out (Xe1 HB2)).alloc (Below.next0 HBW.out (Xe1 HB2)).size _).size al k cl _ rfl ((HRW.out _ (Xe1 HB2)).alloc _) ⟨w2.heap.size,0,none⟩ 1 1 [sv (dec r)] rfl rfl (Q2w w2 #[sv (dec r)] _ _) (Qaa _) (k+1) rfl (by omega) (by omega) ?_;intro a3 c3 w5 ho3 hg3 hb5 hat3;have HO:=Xh4 ho3 hb5 hg3 hat3;clear ho3 hg3 hb5 hat3))
      go_roundg q
      case measure=>have h1:=(Xo1 HNX);have h2:=(Xo3 HNX);omega
      case rel=>
       have h1:=(Xo0 HNX)
       rw[if_pos HQ0.out] at h1
       have hw0:0<=64:=by have h3:=(Xo0 HB2).len;have h4:=(Xo2 HNX);omega
       have hrw:Row w5 w.heap.size 9 1 a3 (k+1) c3 ((xs++[t]).map sv):=by
        have h5:=(Xo0 HO)
        rw[List.map_append,HT.out]
        exact h5
       exact ⟨q,aq,0,cq,a3,k+1,c3,xs++[t],rfl,rfl,hw0,⟨(Xo0 HB2).len,(Xo0 HB2).cap,(Xo0 HB2).most,(Xo0 HB2).low,.inl (by rw[HQ0.out];rfl)⟩,hrw,by rw[List.length_append,hxl];rfl,by rw[HT.out];exact h1,rfl,(Xo1 HO),fun h=>absurd HQ0.out h⟩
    ·by_cases hr0:r=0
     ·skip
      have HQ0:=Lib.hid hq0
      have HR0:=Lib.hid (show (0:Nat)=0 from rfl)
      clear hq0
      subst hr0
      obtain ⟨m,hm⟩:∃m,19-(dec 0).length=m:=⟨_,rfl⟩
      have hmI:(19:Int)-((dec 0).length:Int)=(m:Int):=by omega
      have hm19:m<=19:=by omega
      have hrpl:(Lib.repeatL [48] m).length=m:=by rw[Q5z,List.length_replicate]
      have hdl19':(Lib.decDigits _).length<=19:=hdl19
      have hrp:=fun W=>Tryz.Qyi ⟨#[48]⟩ m W (by omega) (by show 1*m<=_;omega)
      obtain ⟨t,ht⟩:∃t:List UInt8,t=List.replicate m 48++dec 0:=⟨_,rfl⟩
      have htl:t.length<=40:=by rw[ht];simp;omega
      have HT:=Lib.hid ht
      go_wp2_with (first
       |(go_at_call_of 153 ao;refine HDV.out.mono ?_;rintro e w1 ⟨aq,nq,cq,ar,nr,cr,rfl,hWq,hWr,hb1,hfr⟩;have HFR:=Lib.hid (fun x (e:aq=some x)=>Nat.le_trans HBA.out.size (hfr x e));clear hfr;have hnqI:(0:Int)<(nq:Int):=by { have h9:=hWq.len;have h8:nq≠0:=fun e=>HQ0.out ((Q4m (B:=2^64) (by decide)).1 (List.length_eq_zero_iff.1 (by rw[h9,e])));omega };obtain rfl:nr=0:=by { have:=hWr.len;rw[HR0.out,Q0x] at this;exact this.symm };have HB1:=Xh2 hWq (Below.next0 HBA.out hb1);clear hWq hWr hb1)
       |(refine (Qa9 0 (by omega) _ (HTB.out _ (Below.next0 HBW.out (Xe1 HB1)))).mono ?_;rintro e w2 ⟨rfl,hb2⟩;have HB2:=Xh2 ((Xo0 HB1).step hb2) (Below.next0 (Xe1 HB1) hb2);clear hb2)
       |(go_at_call_of 155 (Value.string ⟨#[48]⟩);refine (hrp _).mono ?_;rintro e w3 ⟨rfl,hb3⟩;have HB3:=Xh2 ((Xo0 HB2).step hb3) (Below.next0 (Xe1 HB2) hb3);clear hb3)
       |(at_builtin;refine Q0o rfl (.tmp 41) (.tmp 43) 77 rfl w _ 9 i0 _ 1 16 Tryz.underlying77 (Xo0 HI) (Xo1 HI) (Xo2 HI) (Xe3 HI) rfl (by decide) w.heap.size ((Below.next0 HBW.out (Xe1 HB3)).alloc (Below.next0 HBW.out (Xe1 HB3)).size _) ((Below.next0 HBW.out (Xe1 HB3)).alloc (Below.next0 HBW.out (Xe1 HB3)).size _).size al k cl _ rfl ((HRW.out _ (Xe1 HB3)).alloc _) ⟨w3.heap.size,0,none⟩ 1 1 [Value.string (⟨(Lib.repeatL [48] m).toArray⟩++⟨(dec 0).toArray⟩)] rfl rfl (Q2w w3 #[Value.string (⟨(Lib.repeatL [48] m).toArray⟩++⟨(dec 0).toArray⟩)] _ _) (Qaa _) (k+1) rfl (by omega) (by omega) ?_;intro a3 c3 w5 ho3 hg3 hb5 hat3;have HO:=Xh4 ho3 hb5 hg3 hat3;clear ho3 hg3 hb5 hat3))
      go_roundg q
      case measure=>have h1:=(Xo1 HNX);have h2:=(Xo3 HNX);omega
      case rel=>
       have h1:=(Xo0 HNX)
       rw[if_neg HQ0.out,hm] at h1
       have hw0:nq<=64:=by have h3:=(Xo0 HB3).len;have h4:=(Xo2 HNX);omega
       have hrw:Row w5 w.heap.size 9 1 a3 (k+1) c3 ((xs++[t]).map sv):=by
        have h5:=(Xo0 HO)
        rw[List.map_append,HT.out]
        rw[Q5z] at h5
        have h6:∀(l r:List UInt8),Value.string ((⟨l.toArray⟩:ByteArray)++⟨r.toArray⟩)=sv (l++r):=fun l r=>congrArg Value.string (ByteArray.ext (by simp[ByteArray.data_append]))
        rw[h6] at h5
        exact h5
       exact ⟨q,aq,nq,cq,a3,k+1,c3,xs++[t],rfl,rfl,hw0,(Q87 (Xo0 HB3) HQ0.out HFR.out (Xo0 HAL) (Xo2 HO) (Xe3 HO)).1,hrw,by rw[List.length_append,hxl];rfl,by rw[HT.out];exact h1,rfl,(Xo1 HO),fun _=>(Q87 (Xo0 HB3) HQ0.out HFR.out (Xo0 HAL) (Xo2 HO) (Xe3 HO)).2⟩
     ·skip
      have HQ0:=Lib.hid hq0
      have HR0:=Lib.hid hr0
      clear hq0 hr0
      obtain ⟨m,hm⟩:∃m,19-(dec r).length=m:=⟨_,rfl⟩
      have hmI:(19:Int)-((dec r).length:Int)=(m:Int):=by omega
      have hm19:m<=19:=by omega
      have hrpl:(Lib.repeatL [48] m).length=m:=by rw[Q5z,List.length_replicate]
      have hdl19':(Lib.decDigits _).length<=19:=hdl19
      have hrp:=fun W=>Tryz.Qyi ⟨#[48]⟩ m W (by omega) (by show 1*m<=_;omega)
      obtain ⟨t,ht⟩:∃t:List UInt8,t=List.replicate m 48++dec r:=⟨_,rfl⟩
      have htl:t.length<=40:=by rw[ht];simp;omega
      have HT:=Lib.hid ht
      go_wp2_with (first
       |(go_at_call_of 153 ao;refine HDV.out.mono ?_;rintro e w1 ⟨aq,nq,cq,ar,nr,cr,rfl,hWq,hWr,hb1,hfr⟩;have HFR:=Lib.hid (fun x (e:aq=some x)=>Nat.le_trans HBA.out.size (hfr x e));clear hfr;have hnqI:(0:Int)<(nq:Int):=by { have h9:=hWq.len;have h8:nq≠0:=fun e=>HQ0.out ((Q4m (B:=2^64) (by decide)).1 (List.length_eq_zero_iff.1 (by rw[h9,e])));omega };have hd1:=Qnx (d:=r) hrl HR0.out;rw[hd1] at hWr;obtain rfl:nr=1:=hWr.len.symm;obtain ⟨gr,og,hre,hgr,hcr⟩:=hWr.rd.at_ (k:=0) (x:=r) rfl;rw[Nat.add_zero] at hcr;subst hre;have HB1:=Xh2 hWq (Below.next0 HBA.out hb1);clear hWq hWr hb1)
       |(refine (Qa9 r (by omega) _ (HTB.out _ (Below.next0 HBW.out (Xe1 HB1)))).mono ?_;rintro e w2 ⟨rfl,hb2⟩;have HB2:=Xh2 ((Xo0 HB1).step hb2) (Below.next0 (Xe1 HB1) hb2);clear hb2)
       |(go_at_call_of 155 (Value.string ⟨#[48]⟩);refine (hrp _).mono ?_;rintro e w3 ⟨rfl,hb3⟩;have HB3:=Xh2 ((Xo0 HB2).step hb3) (Below.next0 (Xe1 HB2) hb3);clear hb3)
       |(at_builtin;refine Q0o rfl (.tmp 41) (.tmp 43) 77 rfl w _ 9 i0 _ 1 16 Tryz.underlying77 (Xo0 HI) (Xo1 HI) (Xo2 HI) (Xe3 HI) rfl (by decide) w.heap.size ((Below.next0 HBW.out (Xe1 HB3)).alloc (Below.next0 HBW.out (Xe1 HB3)).size _) ((Below.next0 HBW.out (Xe1 HB3)).alloc (Below.next0 HBW.out (Xe1 HB3)).size _).size al k cl _ rfl ((HRW.out _ (Xe1 HB3)).alloc _) ⟨w3.heap.size,0,none⟩ 1 1 [Value.string (⟨(Lib.repeatL [48] m).toArray⟩++⟨(dec r).toArray⟩)] rfl rfl (Q2w w3 #[Value.string (⟨(Lib.repeatL [48] m).toArray⟩++⟨(dec r).toArray⟩)] _ _) (Qaa _) (k+1) rfl (by omega) (by omega) ?_;intro a3 c3 w5 ho3 hg3 hb5 hat3;have HO:=Xh4 ho3 hb5 hg3 hat3;clear ho3 hg3 hb5 hat3))
      go_roundg q
      case measure=>have h1:=(Xo1 HNX);have h2:=(Xo3 HNX);omega
      case rel=>
       have h1:=(Xo0 HNX)
       rw[if_neg HQ0.out,hm] at h1
       have hw0:nq<=64:=by have h3:=(Xo0 HB3).len;have h4:=(Xo2 HNX);omega
       have hrw:Row w5 w.heap.size 9 1 a3 (k+1) c3 ((xs++[t]).map sv):=by
        have h5:=(Xo0 HO)
        rw[List.map_append,HT.out]
        rw[Q5z] at h5
        have h6:∀(l r:List UInt8),Value.string ((⟨l.toArray⟩:ByteArray)++⟨r.toArray⟩)=sv (l++r):=fun l r=>congrArg Value.string (ByteArray.ext (by simp[ByteArray.data_append]))
        rw[h6] at h5
        exact h5
       exact ⟨q,aq,nq,cq,a3,k+1,c3,xs++[t],rfl,rfl,hw0,(Q87 (Xo0 HB3) HQ0.out HFR.out (Xo0 HAL) (Xo2 HO) (Xe3 HO)).1,hrw,by rw[List.length_append,hxl];rfl,by rw[HT.out];exact h1,rfl,(Xo1 HO),fun _=>(Q87 (Xo0 HB3) HQ0.out HFR.out (Xo0 HAL) (Xo2 HO) (Xe3 HO)).2⟩
theorem Qqa {w:World} {a:Option Addr} {n c:Nat} {ls:List Nat} {neg:Bool} {exp:Int} (h:WordsIn w a n c ls) (hn:Q0h neg exp ls):ls=dig (2^64) (val (2^64) ls):=by
 have h1:trimL ls=ls:=by
  by_cases h0:ls=[]
  ·subst h0;rfl
  ·unfold Q0h at hn
   rw[if_neg h0] at hn
   have h2:=Q3y ls
   rw[hn.1,List.take_length] at h2
   exact h2.symm
 have h3:=Q1j (B:=2^64) (by decide) h.low
 rw[h1] at h3
 exact h3
theorem Qkr (neg:Bool) (exp:Int) (a:Option Addr) (n c:Nat) (ls:List Nat) (w:World) (h:WordsIn w a n c ls) (he: -9223372036854775808<=exp) (he2:exp<=9223372036854775807) (htab:∀W,Below w.heap.size w W->Lib.TabIs Tryz.prog W "internal/strconv.uint64pow10" .u64 Lib.pow10Tab):
 Calls Tryz.prog 69 #[.agg #[.bool neg,.int .i64 exp,.slice a n c]] w fun e w'=>e=.returned (sv (Q3c neg exp ls))/\Below w.heap.size w w':=by
 have hcm:=Nat.le_trans h.cap h.most
 have hB0:Below w.heap.size w (w.alloc (.cells #[.bool neg,.int .i64 exp,.slice a n c] 41)):=(Below.refl _ _).alloc (Nat.le_refl _) _
 have hN:=Q04.new w (.bool neg) (.int .i64 exp) (.slice a n c) 41
 have hl0:=Q0f w (.cells #[.bool neg,.int .i64 exp,.slice a n c] 41)
 have hr:=Q28 neg exp a n c ls _ (h.step hB0) he he2 hcm
 by_cases hnum:Q0h neg exp ls
 ·have htx:Q3c neg exp ls=Q2i neg (val (2^64) ls) exp:=if_pos hnum
  rw[htx]
  have hex:=hnum.exp
  have hn64:n<=64:=by rw[<-h.len];exact hex.2.2
  rw[decide_eq_true hnum] at hr
  have hdl:=Qog h hn64
  have hdg:=Qqa h hnum
  have hp:=fun W (hb:Below w.heap.size w W)=>Qix a n c (val (2^64) ls) W (by rw[<-hdg];exact h.step hb) hn64 hdl (fun V hV=>htab V (Below.next0 hb hV))
  generalize val (2^64) ls=v at*
  have HR:=Xh5 hr hp hN hB0 htab
  clear hr hp htx hnum h hN hB0 hdg htab
  by_cases h0:exp=0
  ·subst h0
   cases neg
   all_goals
    go_enter Tryz.func69,Tryz.ntmps69
    go_wp2_with (first
     |(go_at_call_of 114 a;refine ((Xo1 HR) _ HB1.out).mono ?_;rintro e w3 ⟨rfl,hb3⟩;have hbx:=Below.next0 HR0.out hb3;have hQ:=(Xo2 HR).step hbx hl0;have hg0:=hQ.c0;have hg1:=hQ.c1;have HB3:=Lib.hid hbx;clear hb3 hbx hQ)
     |(refine (Xo0 HR).mono ?_;rintro e w1 ⟨rfl,hb1⟩;have hQ:=(Xo2 HR).step hb1 hl0;have hg2:=hQ.c2;have HB1:=Lib.hid (Below.next0 (Xo3 HR) hb1);have HR0:=Lib.hid hb1;clear hb1 hQ))
    go_ret
    refine ⟨?_,Below.next0 (Xo3 HR) HB3.out⟩
    refine congrArg Ending.returned (congrArg Value.string (ByteArray.ext ?_))
    simp[Q2i,Q9p]
  ·obtain ⟨m,hm⟩:∃m:Nat,exp.natAbs=m:=⟨_,rfl⟩
   have hm0:0<m:=by omega
   have hm1:m<=65536:=by omega
   have hml:=dec_len 5 m (by omega) (by decide)
   have hml':(Lib.decDigits m).length<=5:=hml
   have h0I:((exp != 0):Bool)=true:=by rw[bne_iff_ne];exact h0
   by_cases hneg:exp<0
   ·skip
    have hit:Lib.itoa exp=45::dec m:=by { rw[show exp= -(m:Int) by omega];exact Lib.itoa_neg m hm0 }
    have hitl:(Lib.itoa exp).length<=6:=by { rw[hit];simp;omega }
    have HIT:=Xh2 hit hm
    clear hit hm hex
    cases neg
    all_goals
     go_enter Tryz.func69,Tryz.ntmps69
     go_wp2_with (first
      |(go_at_call_of 114 a;refine ((Xo1 HR) _ HB1.out).mono ?_;rintro e w3 ⟨rfl,hb3⟩;have hbx:=Below.next0 HR0.out hb3;have hQ:=(Xo2 HR).step hbx hl0;have hg0:=hQ.c0;have hg1:=hQ.c1;have HB3:=Lib.hid hbx;clear hb3 hbx hQ)
      |(go_at_call_of 115 exp;refine (Tryz.Qxx exp he he2 _ ((Xe4 HR) _ (Below.next0 (Xo3 HR) HB3.out))).mono ?_;rintro e w4 ⟨rfl,k4,os4,rfl⟩;have HB4:=Lib.hid (Below.next0 HB3.out (Q93 k4 os4)))
      |(refine (Xo0 HR).mono ?_;rintro e w1 ⟨rfl,hb1⟩;have hQ:=(Xo2 HR).step hb1 hl0;have hg2:=hQ.c2;have HB1:=Lib.hid (Below.next0 (Xo3 HR) hb1);have HR0:=Lib.hid hb1;clear hb1 hQ))
     go_ret
     refine ⟨?_,Below.next0 (Xo3 HR) HB4.out⟩
     refine congrArg Ending.returned (congrArg Value.string (ByteArray.ext ?_))
     simp[ByteArray.data_append,Q2i,Q9p,h0,hneg,(Xo0 HIT),(Xe1 HIT)]
   ·skip
    have hit:Lib.itoa exp=dec m:=by { rw[show exp=(m:Int) by omega];exact Lib.itoa_nonneg m }
    have hitl:(Lib.itoa exp).length<=6:=by { rw[hit];exact Nat.le_trans hml (by decide) }
    have HIT:=Xh2 hit hm
    clear hit hm hex
    cases neg
    all_goals
     go_enter Tryz.func69,Tryz.ntmps69
     go_wp2_with (first
      |(go_at_call_of 114 a;refine ((Xo1 HR) _ HB1.out).mono ?_;rintro e w3 ⟨rfl,hb3⟩;have hbx:=Below.next0 HR0.out hb3;have hQ:=(Xo2 HR).step hbx hl0;have hg0:=hQ.c0;have hg1:=hQ.c1;have HB3:=Lib.hid hbx;clear hb3 hbx hQ)
      |(go_at_call_of 115 exp;refine (Tryz.Qxx exp he he2 _ ((Xe4 HR) _ (Below.next0 (Xo3 HR) HB3.out))).mono ?_;rintro e w4 ⟨rfl,k4,os4,rfl⟩;have HB4:=Lib.hid (Below.next0 HB3.out (Q93 k4 os4)))
      |(refine (Xo0 HR).mono ?_;rintro e w1 ⟨rfl,hb1⟩;have hQ:=(Xo2 HR).step hb1 hl0;have hg2:=hQ.c2;have HB1:=Lib.hid (Below.next0 (Xo3 HR) hb1);have HR0:=Lib.hid hb1;clear hb1 hQ))
     go_ret
     refine ⟨?_,Below.next0 (Xo3 HR) HB4.out⟩
     refine congrArg Ending.returned (congrArg Value.string (ByteArray.ext ?_))
     simp[ByteArray.data_append,Q2i,Q9p,h0,hneg,(Xo0 HIT),(Xe1 HIT)]
 ·have htx:Q3c neg exp ls=[]:=if_neg hnum
  rw[htx]
  rw[decide_eq_false hnum] at hr
  have HR:=Xh3 hr hN hB0
  clear hr htx hnum h hN hB0 htab
  go_enter Tryz.func69,Tryz.ntmps69
  go_wp2_with (refine (Xo0 HR).mono ?_;rintro e w1 ⟨rfl,hb1⟩;have HB1:=Lib.hid (Below.next0 (Xe2 HR) hb1);clear hb1)
  go_ret
  exact ⟨rfl,HB1.out⟩
end Go.Proofs.YtdilmfakkppgpaaGreatDoor
