/- Part 24 of the proof of LawParseMeans: MakerP, MakerC, MakerW, MakerO, MakerZ. Condition: as each theorem says; none at the end. -/
import Derived.Test.YtdilmfakkppgpaaGreatDoorPkParseMeans23
set_option maxRecDepth 100000
set_option maxHeartbeats 16000000
namespace Go.Proofs.YtdilmfakkppgpaaGreatDoor
open Go.RowKit WordsM
def Qvs (w:World) (k:Nat) (l:List Ex) (s6 s14:Value) (wx:World):Prop:=∃(i:Nat) (acc:Option (List Q0b)) (a:Option Addr) (n c:Nat) (ms:List Q05),s6=.slice a n c/\s14=.int .i64 (i:Int)/\i<=l.length/\(acc=none↔i=0)/\Q0c wx a n c ms/\ms.map Q05.term=acc.getD []/\(acc≠none->Q0s k ms)/\
 Q3n k none l=Q3n k acc (l.drop i)/\Below w.heap.size w wx
def Qvt (k:Nat) (r:List Ex):Except Int (List Q0b)->Except Int (List Q0b)
 | .error e=>.error e
 | .ok q=>Q3n k (some q) r
theorem Qmm {k:Nat} {q p:List Q0b} {x:Ex} {r:List Ex} (h:Q1k k x=.ok p):Q3n k (some q) (x::r)=Qvt k r (Qau q p):=by
 rw[Q3n,h]
 show (match Qau q p with| .error e=>(.error e:Except Int (List Q0b))| .ok q'=>Q3n k (some q') r)=_
 cases Qau q p <;> rfl
theorem Qg8 (k:Nat) (l:List Ex) (a c:Nat) (w:World) (hm:∀(i:Nat) (x:Ex),l[i]?=some x->Q78 k x) (hne:l≠[]) (ha:a<w.heap.size) (hl:l.length<=9223372036854775807) (hx:Q8x (fun _=>False) w a 0 l) (hT:Q24 w):
 Calls Tryz.prog 85 #[.agg #[.int .i64 (k:Int)],.agg #[.slice (some ⟨a,0,none⟩) l.length c]] w (Q19 w k (Q3n k none l)):=by
 obtain ⟨X,hX⟩:∃X,Q3n k none l=X:=⟨_,rfl⟩
 rw[hX]
 obtain ⟨n,hn⟩:∃n,l.length=n:=⟨_,rfl⟩
 rw[hn] at hl⊢
 obtain ⟨W0,hW0⟩:∃W0,(w.alloc (.cells #[.int .i64 (k:Int)] 87)).alloc (.cells #[.slice (some ⟨a,0,none⟩) n c] 133)=W0:=⟨_,rfl⟩
 have hs1:(w.alloc (.cells #[.int .i64 (k:Int)] 87)).heap.size=w.heap.size+1:=World.size_alloc _ _
 have hb1:Below w.heap.size w (w.alloc (.cells #[.int .i64 (k:Int)] 87)):=(Below.refl _ _).alloc (Nat.le_refl _) _
 have hb2:Below w.heap.size w W0:=by rw[<-hW0];exact hb1.alloc (by rw[hs1];omega) _
 have hs2:W0.heap.size=w.heap.size+2:=by rw[<-hW0,World.size_alloc,hs1]
 have k0:W0.cell? ⟨w.heap.size,0,none⟩=some (.int .i64 (k:Int)):=by
  rw[<-hW0,World.cell?_alloc_lt _ _ _ (by rw[hs1];exact Nat.lt_succ_self _),cell_of_row _ _ _ _ _ _ (heap_alloc_new _ _)];rfl
 have hh:W0.heap[w.heap.size+1]?=some (.cells #[.slice (some ⟨a,0,none⟩) n c] 133 (0,0)):=by
  rw[<-hW0,<-hs1];exact heap_alloc_new _ _
 have k1:W0.cell? ⟨w.heap.size+1,0,none⟩=some (.slice (some ⟨a,0,none⟩) n c):=by rw[cell_of_row _ _ _ _ _ _ hh];rfl
 have H:=Xh11 hm hne ha hx hT hX hn hb2 hs2 k0 k1
 clear hm hne ha hx hT hX hn hb2 hs2 hb1 hs1 hh
 go_enter Tryz.func85,Tryz.ntmps85
 go_wp2_with fail
 clear hW0
 go_loopw [6,14] (fun s6 s14 wr=>Qvs W0 k l s6 s14 wr) (fun _ iv _=>n-(intOf iv).toNat)
 case atStart=>exact ⟨0,none,none,0,0,[],rfl,rfl,Nat.zero_le _,by simp,⟨rfl,Nat.le_refl _,by decide,.inl rfl⟩,rfl,(fun h=>absurd rfl h),rfl,Below.refl _ _⟩
 case round=>
  obtain ⟨i,acc,a1,n1,c1,ms,rfl,rfl,hi,hacc,hmi,hterm,hright,heq,hbr⟩:=hrel
  have hlen:=(Xo6 H)
  by_cases hlt:i<l.length
  ·have hlt':(i:Int)<(n:Int):=by omega
   obtain ⟨x,htx⟩:∃x,l[i]?=some x:=⟨_,List.getElem?_eq_getElem hlt⟩
   obtain ⟨u,q0,hu⟩:=Q8x.get (Xo3 H) htx
   have hbr0:=Below.next0 (Xo7 H) hbr
   obtain ⟨t0,u0,rfl⟩:=hu.face
   rw[Nat.zero_add] at q0
   have q0:=(hbr0.cell (p:=⟨a,i,none⟩) (Xo2 H)).trans q0
   have r0:=(hbr.cell (p:=⟨w.heap.size,0,none⟩) (by rw[(Xo8 H)];show w.heap.size<_;omega)).trans k0
   have r1:=(hbr.cell (p:=⟨w.heap.size+1,0,none⟩) (by rw[(Xo8 H)];show w.heap.size+1<_;omega)).trans k1
   have hcall:=(Xo0 H) i x htx _ wr (hu.step' hbr0) ((Xo4 H).step hbr0)
   obtain ⟨Y,hY⟩:∃Y,Q1k k x=Y:=⟨_,rfl⟩
   rw[hY] at hcall
   have hdr:=Qe4 htx
   rw[hdr] at heq
   have HR:=Xh9 hacc hmi hterm hright heq hbr hcall hY hbr0
   clear hacc hmi hterm hright heq hbr hcall hY hdr htx hu hbr0
   cases Y with
   |error er=>
    have her:(er==0)=false:=beq_eq_false_iff_ne.2 (Q4s k x er (Xo7 HR))
    have hX:X=.error er:=by
     rw[<-(Xo5 H),(Xo4 HR),Q3n,(Xo7 HR)]
    have HX:=Lib.hid hX
    clear hX
    go_wp2_with (go_at_call_of 44 (Value.agg #[.int .i64 (k:Int)]);refine (Xo6 HR).mono ?_;rintro r w3 ⟨hb3,a3,l3,c3,rfl⟩;have H3:=Lib.hid hb3;clear hb3)
    exact ⟨rfl,.tuple #[.slice none 0 0,.int .i64 er],by simp[results,go_sem],Q19.err HX.out (Below.next0 (Xe8 HR) H3.out)⟩
   |ok p=>
    by_cases hi0:i=0
    ·have hi1:¬((0:Int)<(i:Int)):=by omega
     have hac:=(Xo0 HR).2 hi0
     have HA:=Lib.hid hac
     clear hac hi0
     go_wp2_with (go_at_call_of 44 (Value.agg #[.int .i64 (k:Int)]);refine (Xo6 HR).mono ?_;rintro r w3 ⟨hb3,a3,l3,c3,ms3,rfl,hm3,ht3,hr3⟩;have H3:=Xh4 hb3 hm3 ht3 hr3;clear hb3 hm3 ht3 hr3)
     refine ⟨⟨i+1,some p,a3,l3,c3,ms3,rfl,congrArg (Value.int .i64) (by omega),hlt,by simp,(Xo1 H3),(Xo2 H3),fun _=>(Xe3 H3),?_,Below.next0 (Xo5 HR) (Xo0 H3)⟩,by simp only[intOf];omega⟩
     rw[(Xo4 HR),Q3n,(Xo7 HR),HA.out]
    ·have hi1:(0:Int)<(i:Int):=by omega
     obtain ⟨q,hq⟩:∃q,acc=some q:=Option.ne_none_iff_exists'.1 (fun e=>hi0 ((Xo0 HR).1 e))
     have hmq:ms.map Q05.term=q:=by rw[(Xo2 HR),hq];rfl
     have hrq:=(Xo3 HR) (by rw[hq];simp)
     obtain ⟨Z,hZ⟩:∃Z,Qau q p=Z:=⟨_,rfl⟩
     have hmul:=fun (W:World) (hW:Below wr.heap.size wr W) (a5:Option Addr) (l5 c5:Nat) (ms5:List Q05) (h5:Q0c W a5 l5 c5 ms5) (t5:ms5.map Q05.term=p) (r5:Q0s k ms5)=>by
      have:=Qbd a1 n1 c1 ms a5 l5 c5 ms5 k W ((Xo1 HR).step hW) h5 hrq r5 ((Xo4 H).step (Below.next0 (Xe8 HR) hW))
      rw[hmq,t5,hZ] at this
      exact this
     have heq:Q3n k none l=Qvt k (l.drop (i+1)) Z:=by
      rw[(Xo4 HR),hq,Qmm (Xo7 HR),hZ]
     have HA:=Xh3 hmul heq hZ
     clear hmul heq hq hmq hrq hi0
     clear hZ
     cases Z with
     |error er=>
      have her:(er==0)=false:=beq_eq_false_iff_ne.2 (Qa8 (Xe2 HA))
      have hX:X=.error er:=by rw[<-(Xo5 H),(Xo1 HA)];rfl
      have HX:=Lib.hid hX
      clear hX
      go_wp2_with (first|(go_at_call_of 44 (Value.agg #[.int .i64 (k:Int)]);refine (Xo6 HR).mono ?_;rintro r w3 ⟨hb3,a3,l3,c3,ms3,rfl,hm3,ht3,hr3⟩;(have r0:=(hb3.cell (p:=⟨w.heap.size,0,none⟩) (block_lt_of_cell r0)).trans r0);have H3:=Xh4 hb3 hm3 ht3 hr3;clear hb3 hm3 ht3 hr3)|(go_at_call_of 141 (Value.slice a1 n1 c1);refine ((Xo0 HA) _ (Xo0 H3) a3 l3 c3 ms3 (Xo1 H3) (Xo2 H3) (Xe3 H3)).mono ?_;rintro r w6 ⟨hb6,a6,l6,c6,rfl⟩;have H6:=Lib.hid hb6;clear hb6))
      exact ⟨rfl,.tuple #[.slice none 0 0,.int .i64 er],by simp[results,go_sem],Q19.err HX.out (Below.next0 (Below.next0 (Xe8 HR) (Xo0 H3)) H6.out)⟩
     |ok q'=>
      go_wp2_with (first|(go_at_call_of 44 (Value.agg #[.int .i64 (k:Int)]);refine (Xo6 HR).mono ?_;rintro r w3 ⟨hb3,a3,l3,c3,ms3,rfl,hm3,ht3,hr3⟩;(have r0:=(hb3.cell (p:=⟨w.heap.size,0,none⟩) (block_lt_of_cell r0)).trans r0);have H3:=Xh4 hb3 hm3 ht3 hr3;clear hb3 hm3 ht3 hr3)|(go_at_call_of 141 (Value.slice a1 n1 c1);refine ((Xo0 HA) _ (Xo0 H3) a3 l3 c3 ms3 (Xo1 H3) (Xo2 H3) (Xe3 H3)).mono ?_;rintro r w6 ⟨hb6,a6,l6,c6,ms6,rfl,hm6,ht6,hr6⟩;have H6:=Xh4 hb6 hm6 ht6 hr6;clear hb6 hm6 ht6 hr6))
      exact ⟨⟨i+1,some q',a6,l6,c6,ms6,rfl,congrArg (Value.int .i64) (by omega),hlt,by simp,(Xo1 H6),(Xo2 H6),fun _=>(Xe3 H6),(Xo1 HA),Below.next0 (Below.next0 (Xo5 HR) (Xo0 H3)) (Xo0 H6)⟩,by simp only[intOf];omega⟩
  ·have hlt':¬((i:Int)<(n:Int)):=by omega
   have hie:i=l.length:=by omega
   have hne:acc≠none:=fun e=>by
    have:=hacc.1 e
    have:=List.length_pos_iff.2 (Xo1 H)
    omega
   rw[hie,List.drop_length,Q3n] at heq
   have HS:=Xh5 hmi hterm (hright hne) heq hbr
   clear hmi hterm hright heq hbr hacc hie hne hlen
   go_wp2_with fail
   refine ⟨rfl,.tuple #[.slice a1 n1 c1,.int .i64 0],by simp[results,go_sem],Below.next0 (Xo7 H) (Xe4 HS),?_⟩
   rw[<-(Xo5 H),(Xo3 HS)]
   exact ⟨a1,n1,c1,ms,rfl,(Xo0 HS),(Xo1 HS),(Xo2 HS)⟩
theorem Qko {W:World} {a:Option Addr} {l c:Nat} {be:Option Addr} {le ce:Nat} {m:Q05} (hw:WordsIn W a l c m.ws) (he:Q0k W be le ce m.es) (h1: -9223372036854775808<=m.exp) (h2:m.exp<=9223372036854775807):
 Q0c (W.alloc (.cells #[.bool m.neg,.int .i64 m.exp,.slice a l c,.slice be le ce] 44)) (some ⟨W.heap.size,0,none⟩) 1 1 [m]:=by
 have hb:Below W.heap.size W (W.alloc (.cells #[.bool m.neg,.int .i64 m.exp,.slice a l c,.slice be le ce] 44)):=(Below.refl _ _).alloc (Nat.le_refl _) _
 have hX:=Q2s.new W (.bool m.neg) (.int .i64 m.exp) (.slice a l c) (.slice be le ce) 44
 refine ⟨rfl,Nat.le_refl _,by decide,.inr ⟨W.heap.size,0,rfl,Q0f _ _,fun j m' hm=>?_⟩⟩
 cases j with
 |zero=>
  simp only[List.getElem?_cons_zero,Option.some.injEq] at hm
  subst hm
  exact ⟨a,l,c,be,le,ce,hX.c0,hX.c1,hX.c2,hX.c3,hw.step hb,he.step hb,h1,h2⟩
 |succ j=>simp at hm
theorem Qq3 {W:World} (k:Nat) (hk:k<=4):Q0k (W.alloc (.cells (Array.replicate k (nv .i64 0)) 3)) (some ⟨W.heap.size,0,none⟩) k k (List.replicate k 0):=by
 refine ⟨List.length_replicate ..,Nat.le_refl _,by omega,(.new fun x hx=>by rw[List.eq_of_mem_replicate hx];decide),.inr ⟨W.heap.size,0,rfl,Q0f _ _,fun j x hx=>?_⟩⟩
 rw[cell_of_row _ _ _ _ _ _ (heap_alloc_new _ _),Nat.zero_add,<-Array.getElem?_toList,Array.toList_replicate]
 rw[List.getElem?_replicate] at hx⊢
 split at hx
 ·rename_i h
  injection hx with hx
  subst hx
  rw[if_pos h];rfl
 ·cases hx
theorem Q6w (k:Nat) (n:Bool) (e:Int) (a:Option Addr) (l c:Nat) (L:List Nat) (w:World) (hw:WordsIn w a l c L) (hi:Q0h n e L) (hk1:1<=k) (hk4:k<=4) (hT:Q24 w):
 Calls Tryz.prog 82 #[.agg #[.int .i64 (k:Int)],.agg #[.bool n,.int .i64 e,.slice a l c]] w (Q19 w k (Q1t [(Q1q n e L,List.replicate k 0)])):=by
 obtain ⟨X,hX⟩:∃X,Q1t [(Q1q n e L,List.replicate k 0)]=X:=⟨_,rfl⟩
 rw[hX]
 obtain ⟨W0,hW0⟩:∃W0,(w.alloc (.cells #[.int .i64 (k:Int)] 87)).alloc (.cells #[.bool n,.int .i64 e,.slice a l c] 41)=W0:=⟨_,rfl⟩
 have hs1:(w.alloc (.cells #[.int .i64 (k:Int)] 87)).heap.size=w.heap.size+1:=World.size_alloc _ _
 have hb1:Below w.heap.size w (w.alloc (.cells #[.int .i64 (k:Int)] 87)):=(Below.refl _ _).alloc (Nat.le_refl _) _
 have hb2:Below w.heap.size w W0:=by rw[<-hW0];exact hb1.alloc (by rw[hs1];omega) _
 have hs2:W0.heap.size=w.heap.size+2:=by rw[<-hW0,World.size_alloc,hs1]
 have k0:W0.cell? ⟨w.heap.size,0,none⟩=some (.int .i64 (k:Int)):=by
  rw[<-hW0,World.cell?_alloc_lt _ _ _ (by rw[hs1];exact Nat.lt_succ_self _),cell_of_row _ _ _ _ _ _ (heap_alloc_new _ _)];rfl
 have hh:W0.heap[w.heap.size+1]?=some (.cells #[.bool n,.int .i64 e,.slice a l c] 41 (0,0)):=by
  rw[<-hW0,<-hs1];exact heap_alloc_new _ _
 have k1:W0.cell? ⟨w.heap.size+1,0,none⟩=some (.bool n):=by rw[cell_of_row _ _ _ _ _ _ hh];rfl
 have k2:W0.cell? ⟨w.heap.size+1,1,none⟩=some (.int .i64 e):=by rw[cell_of_row _ _ _ _ _ _ hh];rfl
 have k3:W0.cell? ⟨w.heap.size+1,2,none⟩=some (.slice a l c):=by rw[cell_of_row _ _ _ _ _ _ hh];rfl
 have hmk:=run_make_row' (P:=Tryz.prog) 42 3 (.int .i64 0) 8 Tryz.underlying42 Q7z rfl .i64 .i64 k (by omega) (by omega)
 rw[Q1y] at hmk
 have hb3:Below w.heap.size w (W0.alloc (.cells (Array.replicate k (nv .i64 0)) 3)):=hb2.alloc hb2.size _
 have hs3:(W0.alloc (.cells (Array.replicate k (nv .i64 0)) 3)).heap.size=W0.heap.size+1:=World.size_alloc _ _
 have hlen:=Q2b hi hw
 have hlit:=Qko (m:=⟨n,e,L,List.replicate k 0⟩) (hw.step hb3) (Qq3 (W:=W0) k hk4) (by show _<=e;omega) (by show e<=_;omega)
 rw[hs3] at hlit
 have hb4:=hb3.alloc hb3.size (.cells #[.bool n,.int .i64 e,.slice a l c,.slice (some ⟨W0.heap.size,0,none⟩) k k] 44)
 have hb5:=Q6l hb4
 have hpm:=Q51 _ 1 1 _ k _ (hlit.step (Q6l (Below.refl _ _))) (fun m hm=>by rw[List.mem_singleton] at hm;subst hm;exact ⟨Qb8 k,hi⟩) hk1 hk4 (by omega) (hT.step hb5)
 have hXX:Q1t (List.map Q05.term [(⟨n,e,L,List.replicate k 0⟩:Q05)])=X:=hX
 rw[hXX] at hpm
 have d0:(W0.alloc (.cells (Array.replicate k (nv .i64 0)) 3)).cell? ⟨w.heap.size,0,none⟩=some (.int .i64 (k:Int)):=(World.cell?_alloc_lt _ _ _ (by show w.heap.size<W0.heap.size;omega)).trans k0
 have d1:((W0.alloc (.cells (Array.replicate k (nv .i64 0)) 3)).alloc (.cells #[.bool n,.int .i64 e,.slice a l c,.slice (some ⟨W0.heap.size,0,none⟩) k k] 44)).cell? ⟨w.heap.size,0,none⟩=some (.int .i64 (k:Int)):=(World.cell?_alloc_lt _ _ _ (by show w.heap.size<_;rw[hs3];omega)).trans d0
 have e1:(W0.alloc (.cells (Array.replicate k (nv .i64 0)) 3)).cell? ⟨w.heap.size+1,0,none⟩=some (.bool n):=(World.cell?_alloc_lt _ _ _ (by show w.heap.size+1<W0.heap.size;omega)).trans k1
 have e2:(W0.alloc (.cells (Array.replicate k (nv .i64 0)) 3)).cell? ⟨w.heap.size+1,1,none⟩=some (.int .i64 e):=(World.cell?_alloc_lt _ _ _ (by show w.heap.size+1<W0.heap.size;omega)).trans k2
 have e3:(W0.alloc (.cells (Array.replicate k (nv .i64 0)) 3)).cell? ⟨w.heap.size+1,2,none⟩=some (.slice a l c):=(World.cell?_alloc_lt _ _ _ (by show w.heap.size+1<W0.heap.size;omega)).trans k3
 have H:=Xh2 hpm hb5
 clear hpm hb5 hb4 hlit hb3 hX hXX hh hw hi hT hb1 hb2 hs1 hs2 hs3
 go_enter Tryz.func82,Tryz.ntmps82
 go_upto_region 1 with fail
 go_region_law (refine Q2x (by rfl) 83 #[.slice (some ⟨W0.heap.size+1,0,none⟩) 1 1,.int .i64 (k:Int)] (by simp[go_sem]) ?_;refine (Xo0 H).mono ?_;rintro r w5 hres;obtain ⟨a5,l5,c5,er,rfl⟩:=hres.form;refine ⟨_,rfl,?_⟩;have H5:=Lib.hid (hres.lower (Xe1 H));clear hres)
 all_goals go_wp2_with fail
 all_goals exact ⟨rfl,.tuple #[.slice a5 l5 c5,.int .i64 er],by simp[results,go_sem],H5.out⟩
def Qtf (w:World) (k K:Nat) (p:List Q0b) (s7 s8 s31:Value) (wx:World):Prop:=∃(i:Nat) (q:List Q0b) (a:Option Addr) (n c:Nat) (ms:List Q05),s7=.int .i64 0/\s8=.slice a n c/\s31=.int .i64 (i:Int)/\i<=K/\Q0c wx a n c ms/\ms.map Q05.term=q/\Q0s k ms/\Qhl p i=.ok q/\Below w.heap.size w wx
theorem Qg9 {p:List Q0b} {e:Int}:∀{K i:Nat},i<=K->Qhl p i=.error e->Qhl p K=.error e
 |0,i,hi,h=>by
  obtain rfl:i=0:=by omega
  exact h
 |K+1,i,hi,h=>by
  by_cases hiK:i=K+1
  ·subst hiK;exact h
  ·rw[Qhl,Qg9 (by omega) h]
theorem Qq4 {k:Nat}:Q1t [((1:Dyadic),List.replicate k (0:Int))]=.ok [(1,List.replicate k 0)]:=
 Qf8 (n:=k) ⟨List.pairwise_singleton _ _,by simp,fun q hq=>by
  rw[List.mem_singleton] at hq
  subst hq
  exact ⟨Qp2,Qa4,Qb8 k⟩⟩
theorem Qga (k:Nat) (x:Ex) (K:Nat) (u:Value) (w:World) (hm:Q78 k x) (hx:Q2k (fun _=>False) w x u) (hK:K<=8) (hk1:1<=k) (hk4:k<=4) (hT:Q24 w):
 Calls Tryz.prog 86 #[.agg #[.int .i64 (k:Int)],.agg #[u,.int .i64 (K:Int)]] w (Q19 w k (Q1k k (.pow x K))):=by
 obtain ⟨X,hX⟩:∃X,Q1k k (.pow x K)=X:=⟨_,rfl⟩
 rw[hX]
 obtain ⟨t0,u0,rfl⟩:=hx.face
 obtain ⟨W0,hW0⟩:∃W0,(w.alloc (.cells #[.int .i64 (k:Int)] 87)).alloc (.cells #[.iface t0 u0,.int .i64 (K:Int)] 136)=W0:=⟨_,rfl⟩
 have hs1:(w.alloc (.cells #[.int .i64 (k:Int)] 87)).heap.size=w.heap.size+1:=World.size_alloc _ _
 have hb1:Below w.heap.size w (w.alloc (.cells #[.int .i64 (k:Int)] 87)):=(Below.refl _ _).alloc (Nat.le_refl _) _
 have hb2:Below w.heap.size w W0:=by rw[<-hW0];exact hb1.alloc (by rw[hs1];omega) _
 have hs2:W0.heap.size=w.heap.size+2:=by rw[<-hW0,World.size_alloc,hs1]
 have k0:W0.cell? ⟨w.heap.size,0,none⟩=some (.int .i64 (k:Int)):=by
  rw[<-hW0,World.cell?_alloc_lt _ _ _ (by rw[hs1];exact Nat.lt_succ_self _),cell_of_row _ _ _ _ _ _ (heap_alloc_new _ _)];rfl
 have hh:W0.heap[w.heap.size+1]?=some (.cells #[.iface t0 u0,.int .i64 (K:Int)] 136 (0,0)):=by
  rw[<-hW0,<-hs1];exact heap_alloc_new _ _
 have k1:W0.cell? ⟨w.heap.size+1,0,none⟩=some (.iface t0 u0):=by rw[cell_of_row _ _ _ _ _ _ hh];rfl
 have k2:W0.cell? ⟨w.heap.size+1,1,none⟩=some (.int .i64 (K:Int)):=by rw[cell_of_row _ _ _ _ _ _ hh];rfl
 have hcall:=hm _ W0 (hx.step' hb2) (hT.step hb2)
 obtain ⟨Y,hY⟩:∃Y,Q1k k x=Y:=⟨_,rfl⟩
 rw[hY] at hcall
 have hl0:w.heap.size<W0.heap.size:=by omega
 have hl1:w.heap.size+1<W0.heap.size:=by omega
 have H:=Xh7 hcall hY hX hT hb2 hl0 hl1
 clear hcall hY hX hT hb2 hs2 hb1 hs1 hh hm hx hl0 hl1
 go_enter Tryz.func86,Tryz.ntmps86
 cases Y with
 |error er=>
  have her:(er==0)=false:=beq_eq_false_iff_ne.2 (Q4s k x er (Xo1 H))
  have hX:X=.error er:=by rw[<-(Xo2 H),Q1k,(Xo1 H)]
  have HX:=Lib.hid hX
  clear hX
  go_wp2_with (go_at_call_of 44 (Value.agg #[.int .i64 (k:Int)]);refine (Xo0 H).mono ?_;rintro r w3 ⟨hb3,a3,l3,c3,rfl⟩;have H3:=Lib.hid hb3;clear hb3)
  exact ⟨rfl,.tuple #[.slice none 0 0,.int .i64 er],by simp[results,go_sem],Q19.err HX.out (Below.next0 (Xo4 H) H3.out)⟩
 |ok p=>
  have hX:X=Qfb k p K:=by rw[<-(Xo2 H),Q1k,(Xo1 H)]
  go_upto_if 21 with (go_at_call_of 44 (Value.agg #[.int .i64 (k:Int)]);refine (Xo0 H).mono ?_;rintro r w3 ⟨hb3,a3,l3,c3,ms3,rfl,hm3,ht3,hr3⟩;(have k2:=(hb3.cell (p:=⟨w.heap.size+1,1,none⟩) (Xe6 H)).trans k2);(have k0:=(hb3.cell (p:=⟨w.heap.size,0,none⟩) (Xo5 H)).trans k0);have H3:=Xh4 hb3 hm3 ht3 hr3;clear hb3 hm3 ht3 hr3)
  cases K with
  |zero=>
   have hint:Calls Tryz.prog 20 #[.int .i64 1] w3.drew _:=Q8p 1 w3.drew (by decide) ((Xo3 H).step (Q6l (Below.next0 (Xo4 H) (Xo0 H3))))
   have hX1:X=Q1t [((1:Dyadic),List.replicate k (0:Int))]:=by rw[hX,Qq4];rfl
   have HX:=Xh2 hint hX1
   clear hint hX hX1
   have k0d:w3.drew.cell? ⟨w.heap.size,0,none⟩=some (.int .i64 (k:Int)):=k0
   go_upto_region 5 with fail
   go_region_law (first
    |(refine Q2x (by rfl) 20 #[.int .i64 1] (by simp[go_sem]) ?_;refine (Xo0 HX).mono ?_;rintro r w4 ⟨n',e',a',l',c',L,rfl,hnum,hval,hnw,hb4⟩;refine ⟨_,rfl,?_⟩;(have k0:=(hb4.cell (p:=⟨w.heap.size,0,none⟩) (block_lt_of_cell k0d)).trans k0d);(have hb4w:=Below.next0 (Q6l (Below.next0 (Xo4 H) (Xo0 H3))) ⟨hb4.os,hb4.tape,hb4.output,hb4.size,hb4.block⟩);(have hcon:=Q6w k n' e' a' l' c' L w4 hnw.toWordsIn hnum hk1 hk4 ((Xo3 H).step hb4w));rw[hval] at hcon;(have H4:=Xh2 hcon hb4w);clear hnum hval hnw hb4 hb4w hcon)
    |(refine Q2x (by rfl) 82 #[.agg #[.int .i64 (k:Int)],.agg #[.bool n',.int .i64 e',.slice a' l' c']] (by simp[go_sem]) ?_;refine (Xo0 H4).mono ?_;rintro r w5 hres;obtain ⟨a5,l5,c5,er,rfl⟩:=hres.form;refine ⟨_,rfl,?_⟩;have H5:=Lib.hid (hres.lower (Xe1 H4));clear hres))
   all_goals go_wp2_with fail
   all_goals exact ⟨rfl,.tuple #[.slice a5 l5 c5,.int .i64 er],by simp[results,go_sem],by rw[(Xe1 HX)];exact H5.out⟩
  |succ K=>
   have HX:=Lib.hid hX
   clear hX
   have hw1:wrap64 ((K:Int)+1-1)=(K:Int):=by unfold wrap64;omega
   have hw2:wrap64 (K:Int)=(K:Int):=by unfold wrap64;omega
   have hne:(((K:Int)+1)==0)=false:=by rw[beq_eq_false_iff_ne];omega
   go_wp2_with fail
   rename World=>wz
   go_loopw [7,8,31] (fun s7 s8 s31 wr=>Qtf wz k K p s7 s8 s31 wr) (fun _ _ iv _=>K-(intOf iv).toNat)
   case atStart=>exact ⟨0,p,a3,l3,c3,ms3,rfl,rfl,rfl,Nat.zero_le _,(Xo1 H3),(Xo2 H3),(Xe3 H3),rfl,Below.refl _ _⟩
   case round=>
    obtain ⟨i,q,a1,n1,c1,ms,rfl,rfl,rfl,hi,hmi,hterm,hright,hpow,hbr⟩:=hrel
    by_cases hlt:i<K
    ·have hlt':(i:Int)<(K:Int):=by omega
     have k0:=(hbr.cell (p:=⟨w.heap.size,0,none⟩) (block_lt_of_cell k0)).trans k0
     obtain ⟨Z,hZ⟩:∃Z,Qau q p=Z:=⟨_,rfl⟩
     have hmul:=Qbd a1 n1 c1 ms a3 l3 c3 ms3 k wr hmi ((Xo1 H3).step hbr) hright (Xe3 H3) ((Xo3 H).step (Below.next0 (Below.next0 (Xo4 H) (Xo0 H3)) hbr))
     rw[hterm,(Xo2 H3),hZ] at hmul
     have hnext:Qhl p (i+1)=Z:=by rw[Qhl,hpow];exact hZ
     have HA:=Xh4 hmul hnext hZ hbr
     clear hmul hnext hmi hterm hright hpow hbr
     clear hZ
     cases Z with
     |error er=>
      have her:(er==0)=false:=beq_eq_false_iff_ne.2 (Qa8 (Xo2 HA))
      have hX6:X=.error er:=by rw[HX.out];exact Qg9 (i:=i+1) hlt (Xo1 HA)
      have HX6:=Lib.hid hX6
      clear hX6
      go_wp2_with (go_at_call_of 141 (Value.slice a1 n1 c1);refine (Xo0 HA).mono ?_;rintro r w6 ⟨hb6,a6,l6,c6,rfl⟩;have H6:=Lib.hid hb6;clear hb6)
      exact ⟨rfl,.tuple #[.slice none 0 0,.int .i64 er],by simp[results,go_sem],Q19.err HX6.out (Below.next0 (Below.next0 (Below.next0 (Xo4 H) (Xo0 H3)) (Xe3 HA)) H6.out)⟩
     |ok q'=>
      go_wp2_with (go_at_call_of 141 (Value.slice a1 n1 c1);refine (Xo0 HA).mono ?_;rintro r w6 ⟨hb6,a6,l6,c6,ms6,rfl,hm6,ht6,hr6⟩;have H6:=Xh4 hb6 hm6 ht6 hr6;clear hb6 hm6 ht6 hr6)
      have hrel:Qtf wz k K p (.int .i64 0) (.slice a6 l6 c6) (.int .i64 ((i:Int)+1)) w6:=⟨i+1,q',a6,l6,c6,ms6,rfl,rfl,congrArg (Value.int .i64) (by omega),hlt,(Xo1 H6),(Xo2 H6),(Xe3 H6),(Xo1 HA),Below.next0 (Xe3 HA) (Xo0 H6)⟩
      refine ⟨⟨_,_,_,_,_,_,_,_,_,_,_,_,_,_,_,_,_,_,hrel,rfl⟩,?_⟩
      simp[intOf]
      omega
    ·have hlt':¬((i:Int)<(K:Int)):=by omega
     have hie:i=K:=by omega
     rw[hie] at hpow
     have HS:=Xh5 hmi hterm hright hpow hbr
     clear hmi hterm hright hpow hbr hie
     go_wp2_with fail
     refine ⟨rfl,.tuple #[.slice a1 n1 c1,.int .i64 0],by simp[results,go_sem],Below.next0 (Below.next0 (Xo4 H) (Xo0 H3)) (Xe4 HS),?_⟩
     have hXq:X=.ok q:=by rw[HX.out];exact (Xo3 HS)
     rw[hXq]
     exact ⟨a1,n1,c1,ms,rfl,(Xo0 HS),(Xo1 HS),(Xo2 HS)⟩
theorem Qgb (v:Value) (w:World):(Instr.typeAssert (.iface 123 v) 82 123 true).run Tryz.prog w=.ok (.tuple #[v,.bool true]) w:=by kernel_rfl
theorem Qiv (v:Value) (w:World):(Instr.typeAssert (.iface 126 v) 82 126 true).run Tryz.prog w=.ok (.tuple #[v,.bool true]) w:=by kernel_rfl
theorem Q83 (v:Value) (w:World):(Instr.typeAssert (.iface 126 v) 82 123 true).run Tryz.prog w=.ok (.tuple #[.agg #[.bool false,.int .i64 0,.slice none 0 0,.int .i64 0],.bool false]) w:=by kernel_rfl
theorem Qvu (v:Value) (w:World):(Instr.typeAssert (.iface 130 v) 82 130 true).run Tryz.prog w=.ok (.tuple #[v,.bool true]) w:=by kernel_rfl
theorem Qe5 (v:Value) (w:World):(Instr.typeAssert (.iface 130 v) 82 123 true).run Tryz.prog w=.ok (.tuple #[.agg #[.bool false,.int .i64 0,.slice none 0 0,.int .i64 0],.bool false]) w:=by kernel_rfl
theorem Qbh (v:Value) (w:World):(Instr.typeAssert (.iface 130 v) 82 126 true).run Tryz.prog w=.ok (.tuple #[.agg #[.int .i64 0],.bool false]) w:=by kernel_rfl
theorem Qmn (v:Value) (w:World):(Instr.typeAssert (.iface 133 v) 82 133 true).run Tryz.prog w=.ok (.tuple #[v,.bool true]) w:=by kernel_rfl
theorem Q91 (v:Value) (w:World):(Instr.typeAssert (.iface 133 v) 82 123 true).run Tryz.prog w=.ok (.tuple #[.agg #[.bool false,.int .i64 0,.slice none 0 0,.int .i64 0],.bool false]) w:=by kernel_rfl
theorem Q79 (v:Value) (w:World):(Instr.typeAssert (.iface 133 v) 82 126 true).run Tryz.prog w=.ok (.tuple #[.agg #[.int .i64 0],.bool false]) w:=by kernel_rfl
theorem Qc7 (v:Value) (w:World):(Instr.typeAssert (.iface 133 v) 82 130 true).run Tryz.prog w=.ok (.tuple #[.agg #[.slice none 0 0,.slice none 0 0],.bool false]) w:=by kernel_rfl
theorem Qsi (v:Value) (w:World):(Instr.typeAssert (.iface 136 v) 82 136 true).run Tryz.prog w=.ok (.tuple #[v,.bool true]) w:=by kernel_rfl
theorem Qbi (v:Value) (w:World):(Instr.typeAssert (.iface 136 v) 82 123 true).run Tryz.prog w=.ok (.tuple #[.agg #[.bool false,.int .i64 0,.slice none 0 0,.int .i64 0],.bool false]) w:=by kernel_rfl
theorem Q92 (v:Value) (w:World):(Instr.typeAssert (.iface 136 v) 82 126 true).run Tryz.prog w=.ok (.tuple #[.agg #[.int .i64 0],.bool false]) w:=by kernel_rfl
theorem Qgc (v:Value) (w:World):(Instr.typeAssert (.iface 136 v) 82 130 true).run Tryz.prog w=.ok (.tuple #[.agg #[.slice none 0 0,.slice none 0 0],.bool false]) w:=by kernel_rfl
theorem Q9u (v:Value) (w:World):(Instr.typeAssert (.iface 136 v) 82 133 true).run Tryz.prog w=.ok (.tuple #[.agg #[.slice none 0 0],.bool false]) w:=by kernel_rfl
theorem Qvv (k:Nat):Q78 k (.num none):=by
 intro v w hx hT
 rw[Q2k] at hx
 obtain ⟨u0,u1,u2,l2,c2,rfl⟩:=hx
 clear hT
 rw[Q1k]
 have has:=Qgb
 go_enter Tryz.func44,Tryz.ntmps44
 go_wp2_with fail
 go_quiet (fail)
 go_wp2_with fail
 exact ⟨rfl,.tuple #[.slice none 0 0,.int .i64 2],by simp[results,go_sem],Q19.err rfl (Below.drewN' (((Below.refl _ _).alloc (Nat.le_refl _) _).alloc (by rw[World.size_alloc];omega) _) _)⟩
theorem Qq5 (k:Nat) (c:Dyadic) (hk1:1<=k) (hk4:k<=4):Q78 k (.num (some c)):=by
 intro v w hx hT
 rw[Q2k] at hx
 obtain ⟨n,e,a,l,q,L,rfl,hw,_,hi,hv⟩:=hx
 rw[Q1k]
 obtain ⟨W0,hW0⟩:∃W0,(w.alloc (.cells #[.int .i64 (k:Int)] 87)).alloc (.cells #[.bool n,.int .i64 e,.slice a l q,.int .i64 0] 123)=W0:=⟨_,rfl⟩
 have hs1:(w.alloc (.cells #[.int .i64 (k:Int)] 87)).heap.size=w.heap.size+1:=World.size_alloc _ _
 have hb1:Below w.heap.size w (w.alloc (.cells #[.int .i64 (k:Int)] 87)):=(Below.refl _ _).alloc (Nat.le_refl _) _
 have hb2:Below w.heap.size w W0:=by rw[<-hW0];exact hb1.alloc (by rw[hs1];omega) _
 have k0:W0.cell? ⟨w.heap.size,0,none⟩=some (.int .i64 (k:Int)):=by
  rw[<-hW0,World.cell?_alloc_lt _ _ _ (by rw[hs1];exact Nat.lt_succ_self _),cell_of_row _ _ _ _ _ _ (heap_alloc_new _ _)];rfl
 have hh:W0.heap[w.heap.size+1]?=some (.cells #[.bool n,.int .i64 e,.slice a l q,.int .i64 0] 123 (0,0)):=by
  rw[<-hW0,<-hs1];exact heap_alloc_new _ _
 have k1:W0.cell? ⟨w.heap.size+1,0,none⟩=some (.bool n):=by rw[cell_of_row _ _ _ _ _ _ hh];rfl
 have k2:W0.cell? ⟨w.heap.size+1,1,none⟩=some (.int .i64 e):=by rw[cell_of_row _ _ _ _ _ _ hh];rfl
 have k3:W0.cell? ⟨w.heap.size+1,2,none⟩=some (.slice a l q):=by rw[cell_of_row _ _ _ _ _ _ hh];rfl
 have k4:W0.cell? ⟨w.heap.size+1,3,none⟩=some (.int .i64 0):=by rw[cell_of_row _ _ _ _ _ _ hh];rfl
 have hcon:=Q6w k n e a l q L W0 (hw.step hb2) hi hk1 hk4 (hT.step hb2)
 rw[hv] at hcon
 subst hW0
 have H:=Xh2 hcon hb2
 clear hcon hb2 hw hi hv hT hb1 hs1 hh
 have has:=Qgb
 go_enter Tryz.func44,Tryz.ntmps44
 go_wp2_with (go_at_call_of 82 (Value.agg #[.int .i64 (k:Int)]);refine (Xo0 H).mono ?_;rintro r w5 hres;obtain ⟨a5,l5,c5,er,rfl⟩:=hres.form;have H5:=Lib.hid (hres.lower (Xe1 H));clear hres)
 exact ⟨rfl,.tuple #[.slice a5 l5 c5,.int .i64 er],by simp[results,go_sem],H5.out⟩
theorem Qsj {W:World} {k i:Nat} (hi:i<k) (hk:k<=4):Q0k (W.alloc (.cells ((Array.replicate k (nv .i64 0)).setIfInBounds i (.int .i64 1)) 3)) (some ⟨W.heap.size,0,none⟩) k k (Q9q k i):=by
 refine ⟨by simp[Q9q],Nat.le_refl _,by omega,.new fun x hx=>?_,.inr ⟨W.heap.size,0,rfl,Q0f _ _,fun j x hx=>?_⟩⟩
 ·unfold Q9q at hx
  rcases List.mem_or_eq_of_mem_set hx with h|rfl
  ·rw[List.eq_of_mem_replicate h];decide
  ·decide
 ·unfold Q9q at hx
  rw[Nat.zero_add,cell_of_row _ _ _ _ _ _ (heap_alloc_new _ _),<-Array.getElem?_toList,Array.toList_setIfInBounds,Array.toList_replicate]
  by_cases e:i=j
  ·subst e
   rw[List.getElem?_set_self (by simpa using hi)] at hx⊢
   injection hx with hx
   subst hx
   rfl
  ·rw[List.getElem?_set_ne e,List.getElem?_replicate] at hx⊢
   split at hx
   ·rename_i h
    injection hx with hx
    subst hx
    rw[if_pos h];rfl
   ·cases hx
theorem Qvw (k i:Nat) (hi:i<k) (hk1:1<=k) (hk4:k<=4):Q78 k (.var i):=by
 intro v w hx hT
 rw[Q2k] at hx
 subst hx
 rw[Q1k]
 obtain ⟨X,hX⟩:∃X,Q1t [((1:Dyadic),Q9q k i)]=X:=⟨_,rfl⟩
 rw[hX]
 have H:=Xh2 hT hX
 clear hT hX
 have hmk:=run_make_row' (P:=Tryz.prog) 42 3 (.int .i64 0) 8 Tryz.underlying42 Q7z rfl .i64 .i64 k (by omega) (by omega)
 rw[Q1y] at hmk
 have hi':(i:Int)<(k:Int):=by omega
 have h1:=Qiv
 have h2:=Q83
 go_enter Tryz.func44,Tryz.ntmps44
 obtain ⟨W2,hW2⟩:∃W2,(w.alloc (.cells #[.int .i64 (k:Int)] 87)).alloc (.cells #[.int .i64 (i:Int)] 126)=W2:=⟨_,rfl⟩
 have hs1:(w.alloc (.cells #[.int .i64 (k:Int)] 87)).heap.size=w.heap.size+1:=World.size_alloc _ _
 have hb2:Below w.heap.size w W2:=by rw[<-hW2];exact ((Below.refl _ _).alloc (Nat.le_refl _) _).alloc (by rw[hs1];omega) _
 have hs2:W2.heap.size=w.heap.size+2:=by rw[<-hW2,World.size_alloc,hs1]
 have k0:W2.cell? ⟨w.heap.size,0,none⟩=some (.int .i64 (k:Int)):=by
  rw[<-hW2,World.cell?_alloc_lt _ _ _ (by rw[hs1];exact Nat.lt_succ_self _),cell_of_row _ _ _ _ _ _ (heap_alloc_new _ _)];rfl
 have k1:W2.cell? ⟨w.heap.size+1,0,none⟩=some (.int .i64 (i:Int)):=by
  have hh:=heap_alloc_new (w.alloc (.cells #[.int .i64 (k:Int)] 87)) (.cells #[.int .i64 (i:Int)] 126)
  rw[hs1,hW2] at hh
  rw[cell_of_row _ _ _ _ _ _ hh];rfl
 have hl0:w.heap.size<W2.heap.size:=by omega
 have hl1:w.heap.size+1<W2.heap.size:=by omega
 have z0:=(World.cell?_alloc_lt W2 (.cells (Array.replicate k (nv .i64 0)) 3) _ hl0).trans k0
 have z1:=(World.cell?_alloc_lt W2 (.cells (Array.replicate k (nv .i64 0)) 3) _ hl1).trans k1
 have hzn:=heap_alloc_new W2 (.cells (Array.replicate k (nv .i64 0)) 3)
 have z2:(W2.alloc (.cells (Array.replicate k (nv .i64 0)) 3)).cell? ⟨W2.heap.size,i,none⟩=some (.int .i64 0):=by
  rw[cell_of_row _ _ _ _ _ _ hzn];simp[hi,nv]
 have z3:(W2.alloc (.cells (Array.replicate k (nv .i64 0)) 3)).frozen? ⟨W2.heap.size,i,none⟩=false:=frozen_of_row _ _ _ _ _ hzn
 have hb3:Below w.heap.size w (W2.alloc (.cells ((Array.replicate k (nv .i64 0)).setIfInBounds i (.int .i64 1)) 3)):=hb2.alloc hb2.size _
 have he:=Qsj (W:=W2) hi hk4
 have r0:(W2.alloc (.cells ((Array.replicate k (nv .i64 0)).setIfInBounds i (.int .i64 1)) 3)).cell? ⟨w.heap.size,0,none⟩=some (.int .i64 (k:Int)):=(World.cell?_alloc_lt _ _ _ hl0).trans k0
 have hl3:w.heap.size<(W2.alloc (.cells ((Array.replicate k (nv .i64 0)).setIfInBounds i (.int .i64 1)) 3)).heap.size:=by rw[World.size_alloc];omega
 have hint:Calls Tryz.prog 20 #[.int .i64 1] (W2.alloc (.cells ((Array.replicate k (nv .i64 0)).setIfInBounds i (.int .i64 1)) 3)).drew _:=Q8p 1 _ (by decide) ((Xo0 H).step (Q6l hb3))
 have HZ:=Xh4 hs2 hb2 hl0 hl1
 have H3:=Xh4 hb3 he hl3 hint
 clear hs1 hs2 hb2 hzn hl0 hl1 hb3 he hl3 hint
 go_upto_region 11 with fail
 clear z0 z1 z2 z3 k0 k1
 generalize hW3:World.alloc _ _=W3 at r0 H3⊢
 clear hW3 hW2
 have r0d:W3.drew.cell? ⟨w.heap.size,0,none⟩=some (.int .i64 (k:Int)):=r0
 go_region_law (first
  |(refine Q2x (by rfl) 20 #[.int .i64 1] (by simp[go_sem]) ?_;refine (Xe3 H3).mono ?_;rintro r w4 ⟨n',e',a',l',c',L,rfl,hnum,hval,hnw,hb4d⟩;refine ⟨_,rfl,?_⟩
    have hb4:Below W3.heap.size W3 w4:=⟨hb4d.os,hb4d.tape,hb4d.output,hb4d.size,hb4d.block⟩
    have s0:=(hb4.cell (p:=⟨w.heap.size,0,none⟩) (Xo2 H3)).trans r0
    have hb5:=Below.next0 (Xo0 H3) hb4
    have hbd:=Q2b hnum hnw.toWordsIn
    have hlit:=Qko (m:=⟨n',e',L,Q9q k i⟩) hnw.toWordsIn ((Xo1 H3).step hb4) (by show _<=e';omega) (by show e'<=_;omega)
    have hb6:=hb5.alloc hb5.size (.cells #[.bool n',.int .i64 e',.slice a' l' c',.slice (some ⟨W2.heap.size,0,none⟩) k k] 44)
    have hpm:=Q51 _ 1 1 _ k _ hlit (fun m hm=>by rw[List.mem_singleton] at hm;subst hm;exact ⟨Qm2 hi,hnum⟩) hk1 hk4 (by omega) ((Xo0 H).step hb6)
    have hXX:Q1t (List.map Q05.term [(⟨n',e',L,Q9q k i⟩:Q05)])=X:=by
     rw[<-(Xe1 H)]
     show Q1t [(Q1q n' e' L,Q9q k i)]=_
     rw[hval];rfl
    rw[hXX] at hpm
    have s1:=(World.cell?_alloc_lt w4 (.cells #[.bool n',.int .i64 e',.slice a' l' c',.slice (some ⟨W2.heap.size,0,none⟩) k k] 44) _ (block_lt_of_cell s0)).trans s0
    have H4:=Xh2 hpm hb6
    clear hnum hval hnw hb4 hb4d hb5 hbd hlit hb6 hpm hXX)
  |(refine Q2x (by rfl) 83 #[.slice (some ⟨w4.heap.size,0,none⟩) 1 1,.int .i64 (k:Int)] (by simp[go_sem]) ?_;refine (Xo0 H4).mono ?_;rintro r w5 hres;obtain ⟨a5,l5,c5,er,rfl⟩:=hres.form;refine ⟨_,rfl,?_⟩;have H5:=Lib.hid (hres.lower (Xe1 H4));clear hres))
 all_goals go_wp2_with fail
 all_goals exact ⟨rfl,.tuple #[.slice a5 l5 c5,.int .i64 er],by simp[results,go_sem],H5.out⟩
theorem Qbj:maxLen<=9223372036854775807:=by unfold maxLen;omega
theorem Qvx (k:Nat) (l:List (Bool × Ex)) (hm:∀(i:Nat) (t:Bool) (x:Ex),l[i]?=some (t,x)->Q78 k x):Q78 k (.sum l):=by
 intro v w hx hT
 rw[Q2k] at hx
 obtain ⟨a,b,c,d,rfl,_,_,ha,hb,hc,hc2,hd,hd2,hne,hx⟩:=hx
 rw[Q1k]
 obtain ⟨n,hn⟩:∃n,l.length=n:=⟨_,rfl⟩
 obtain ⟨W0,hW0⟩:∃W0,(w.alloc (.cells #[.int .i64 (k:Int)] 87)).alloc (.cells #[.slice (some ⟨a,0,none⟩) n c,.slice (some ⟨b,0,none⟩) n d] 130)=W0:=⟨_,rfl⟩
 have hs1:(w.alloc (.cells #[.int .i64 (k:Int)] 87)).heap.size=w.heap.size+1:=World.size_alloc _ _
 have hb1:Below w.heap.size w (w.alloc (.cells #[.int .i64 (k:Int)] 87)):=(Below.refl _ _).alloc (Nat.le_refl _) _
 have hb2:Below w.heap.size w W0:=by rw[<-hW0];exact hb1.alloc (by rw[hs1];omega) _
 have hs2:W0.heap.size=w.heap.size+2:=by rw[<-hW0,World.size_alloc,hs1]
 have k0:W0.cell? ⟨w.heap.size,0,none⟩=some (.int .i64 (k:Int)):=by
  rw[<-hW0,World.cell?_alloc_lt _ _ _ (by rw[hs1];exact Nat.lt_succ_self _),cell_of_row _ _ _ _ _ _ (heap_alloc_new _ _)];rfl
 have hh:W0.heap[w.heap.size+1]?=some (.cells #[.slice (some ⟨a,0,none⟩) n c,.slice (some ⟨b,0,none⟩) n d] 130 (0,0)):=by
  rw[<-hW0,<-hs1];exact heap_alloc_new _ _
 have k1:W0.cell? ⟨w.heap.size+1,0,none⟩=some (.slice (some ⟨a,0,none⟩) n c):=by rw[cell_of_row _ _ _ _ _ _ hh];rfl
 have k2:W0.cell? ⟨w.heap.size+1,1,none⟩=some (.slice (some ⟨b,0,none⟩) n d):=by rw[cell_of_row _ _ _ _ _ _ hh];rfl
 have hx0:Q2k (fun _=>False) w (.sum l) (.iface 130 (.agg #[.slice (some ⟨a,0,none⟩) l.length c,.slice (some ⟨b,0,none⟩) l.length d])):=by
  rw[Q2k];exact ⟨a,b,c,d,rfl,id,id,ha,hb,hc,hc2,hd,hd2,hne,hx⟩
 have hx1:=hx0.step' hb2
 rw[Q2k] at hx1
 obtain ⟨a',b',c',d',he,_,_,ha',hb',_,_,_,_,_,hx'⟩:=hx1
 injection he with _ he
 injection he with he
 injection he with he
 injection he with he1 he2
 injection he1 with e1 _ e3
 injection e1 with e1
 injection e1 with e1
 injection he2 with he2
 injection he2 with e4 _ e6
 injection e4 with e4
 injection e4 with e4
 subst e1;subst e3;subst e4;subst e6
 have hcon:=Qg7 k l a b c d W0 hm hne ha' hb' (Nat.le_trans hc (Nat.le_trans hc2 Qbj)) hx' (hT.step hb2)
 rw[hn] at hcon⊢
 subst hW0
 have H:=Xh2 hcon hb2
 clear hcon hb2 hT hb1 hs1 hs2 hh hx hx0 hx' hm hne ha hb ha' hb' hc hc2 hd hd2 hn
 have t1:=Qvu
 have t2:=Qe5
 have t3:=Qbh
 go_enter Tryz.func44,Tryz.ntmps44
 go_wp2_with (go_at_call_of 84 (Value.agg #[.int .i64 (k:Int)]);refine (Xo0 H).mono ?_;rintro r w5 hres;obtain ⟨a5,l5,c5,er,rfl⟩:=hres.form;have H5:=Lib.hid (hres.lower (Xe1 H));clear hres)
 exact ⟨rfl,.tuple #[.slice a5 l5 c5,.int .i64 er],by simp[results,go_sem],H5.out⟩
theorem Qvy (k:Nat) (l:List Ex) (hm:∀(i:Nat) (x:Ex),l[i]?=some x->Q78 k x):Q78 k (.prod l):=by
 intro v w hx hT
 rw[Q2k] at hx
 obtain ⟨a,c,rfl,_,ha,hc,hc2,hne,hx⟩:=hx
 rw[Q1k]
 obtain ⟨n,hn⟩:∃n,l.length=n:=⟨_,rfl⟩
 obtain ⟨W0,hW0⟩:∃W0,(w.alloc (.cells #[.int .i64 (k:Int)] 87)).alloc (.cells #[.slice (some ⟨a,0,none⟩) n c] 133)=W0:=⟨_,rfl⟩
 have hs1:(w.alloc (.cells #[.int .i64 (k:Int)] 87)).heap.size=w.heap.size+1:=World.size_alloc _ _
 have hb1:Below w.heap.size w (w.alloc (.cells #[.int .i64 (k:Int)] 87)):=(Below.refl _ _).alloc (Nat.le_refl _) _
 have hb2:Below w.heap.size w W0:=by rw[<-hW0];exact hb1.alloc (by rw[hs1];omega) _
 have k0:W0.cell? ⟨w.heap.size,0,none⟩=some (.int .i64 (k:Int)):=by
  rw[<-hW0,World.cell?_alloc_lt _ _ _ (by rw[hs1];exact Nat.lt_succ_self _),cell_of_row _ _ _ _ _ _ (heap_alloc_new _ _)];rfl
 have hh:W0.heap[w.heap.size+1]?=some (.cells #[.slice (some ⟨a,0,none⟩) n c] 133 (0,0)):=by
  rw[<-hW0,<-hs1];exact heap_alloc_new _ _
 have k1:W0.cell? ⟨w.heap.size+1,0,none⟩=some (.slice (some ⟨a,0,none⟩) n c):=by rw[cell_of_row _ _ _ _ _ _ hh];rfl
 have hx':Q8x (fun _=>False) W0 a 0 l:=Q8x.turn (Q0n.of_below hb2 (fun _=>False)) (fun _ h=>h.elim) (fun h=>h.elim) ha hx
 have hcon:=Qg8 k l a c W0 hm hne (Nat.lt_of_lt_of_le ha hb2.size) (Nat.le_trans hc (Nat.le_trans hc2 Qbj)) hx' (hT.step hb2)
 rw[hn] at hcon⊢
 subst hW0
 have H:=Xh2 hcon hb2
 clear hcon hb2 hT hb1 hs1 hh hx hx' hm hne ha hc hc2 hn
 have t1:=Qmn
 have t2:=Q91
 have t3:=Q79
 have t4:=Qc7
 go_enter Tryz.func44,Tryz.ntmps44
 go_wp2_with (go_at_call_of 85 (Value.agg #[.int .i64 (k:Int)]);refine (Xo0 H).mono ?_;rintro r w5 hres;obtain ⟨a5,l5,c5,er,rfl⟩:=hres.form;have H5:=Lib.hid (hres.lower (Xe1 H));clear hres)
 exact ⟨rfl,.tuple #[.slice a5 l5 c5,.int .i64 er],by simp[results,go_sem],H5.out⟩
theorem Qvz (k:Nat) (x:Ex) (K:Nat) (hm:Q78 k x) (hK:K<=8) (hk1:1<=k) (hk4:k<=4):Q78 k (.pow x K):=by
 intro v w hx hT
 rw[Q2k] at hx
 obtain ⟨u,rfl,hx⟩:=hx
 obtain ⟨t0,u0,rfl⟩:=hx.face
 obtain ⟨X,hX⟩:∃X,Q1k k (.pow x K)=X:=⟨_,rfl⟩
 rw[hX]
 obtain ⟨W0,hW0⟩:∃W0,(w.alloc (.cells #[.int .i64 (k:Int)] 87)).alloc (.cells #[.iface t0 u0,.int .i64 (K:Int)] 136)=W0:=⟨_,rfl⟩
 have hs1:(w.alloc (.cells #[.int .i64 (k:Int)] 87)).heap.size=w.heap.size+1:=World.size_alloc _ _
 have hb1:Below w.heap.size w (w.alloc (.cells #[.int .i64 (k:Int)] 87)):=(Below.refl _ _).alloc (Nat.le_refl _) _
 have hb2:Below w.heap.size w W0:=by rw[<-hW0];exact hb1.alloc (by rw[hs1];omega) _
 have k0:W0.cell? ⟨w.heap.size,0,none⟩=some (.int .i64 (k:Int)):=by
  rw[<-hW0,World.cell?_alloc_lt _ _ _ (by rw[hs1];exact Nat.lt_succ_self _),cell_of_row _ _ _ _ _ _ (heap_alloc_new _ _)];rfl
 have hh:W0.heap[w.heap.size+1]?=some (.cells #[.iface t0 u0,.int .i64 (K:Int)] 136 (0,0)):=by
  rw[<-hW0,<-hs1];exact heap_alloc_new _ _
 have k1:W0.cell? ⟨w.heap.size+1,0,none⟩=some (.iface t0 u0):=by rw[cell_of_row _ _ _ _ _ _ hh];rfl
 have k2:W0.cell? ⟨w.heap.size+1,1,none⟩=some (.int .i64 (K:Int)):=by rw[cell_of_row _ _ _ _ _ _ hh];rfl
 have hcon:=Qga k x K _ W0 hm (hx.step' hb2) hK hk1 hk4 (hT.step hb2)
 rw[hX] at hcon
 subst hW0
 have H:=Xh2 hcon hb2
 clear hcon hb2 hT hb1 hs1 hh hx hm hX
 have t1:=Qsi
 have t2:=Qbi
 have t3:=Q92
 have t4:=Qgc
 have t5:=Q9u
 go_enter Tryz.func44,Tryz.ntmps44
 go_wp2_with (go_at_call_of 86 (Value.agg #[.int .i64 (k:Int)]);refine (Xo0 H).mono ?_;rintro r w5 hres;obtain ⟨a5,l5,c5,er,rfl⟩:=hres.form;have H5:=Lib.hid (hres.lower (Xe1 H));clear hres)
 exact ⟨rfl,.tuple #[.slice a5 l5 c5,.int .i64 er],by simp[results,go_sem],H5.out⟩
mutual
theorem Qkp (k:Nat) (hk1:1<=k) (hk4:k<=4):∀(x:Ex),Q3u k x->Q78 k x
 | .num none,_=>Qvv k
 | .num (some c),_=>Qq5 k c hk1 hk4
 | .var i,h=>by rw[Q3u] at h;exact Qvw k i h hk1 hk4
 | .sum l,h=>by rw[Q3u] at h;exact Qvx k l (Qq6 k hk1 hk4 l h)
 | .prod l,h=>by rw[Q3u] at h;exact Qvy k l (Qq7 k hk1 hk4 l h)
 | .pow x K,h=>by rw[Q3u] at h;exact Qvz k x K (Qkp k hk1 hk4 x h.1) h.2 hk1 hk4
theorem Qq6 (k:Nat) (hk1:1<=k) (hk4:k<=4):∀(l:List (Bool × Ex)),Q6t k l->∀(i:Nat) (t:Bool) (x:Ex),l[i]?=some (t,x)->Q78 k x
 |[],_,i,t,x,hi=>by simp at hi
 |(t0,x0)::r,h,0,t,x,hi=>by
  rw[Q6t] at h
  simp only[List.getElem?_cons_zero,Option.some.injEq,Prod.mk.injEq] at hi
  obtain ⟨_,rfl⟩:=hi
  exact Qkp k hk1 hk4 x0 h.1
 |(t0,x0)::r,h,i+1,t,x,hi=>by
  rw[Q6t] at h
  exact Qq6 k hk1 hk4 r h.2 i t x (by simpa using hi)
theorem Qq7 (k:Nat) (hk1:1<=k) (hk4:k<=4):∀(l:List Ex),Q75 k l->∀(i:Nat) (x:Ex),l[i]?=some x->Q78 k x
 |[],_,i,x,hi=>by simp at hi
 |x0::r,h,0,x,hi=>by
  rw[Q75] at h
  simp only[List.getElem?_cons_zero,Option.some.injEq] at hi
  subst hi
  exact Qkp k hk1 hk4 x0 h.1
 |x0::r,h,i+1,x,hi=>by
  rw[Q75] at h
  exact Qq7 k hk1 hk4 r h.2 i x (by simpa using hi)
end
end Go.Proofs.YtdilmfakkppgpaaGreatDoor
