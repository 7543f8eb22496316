/- Part 13. No condition. -/
import Derived.Shelf.SlSortCmp.WholeK
import Derived.Ground.SlsfProg
import Derived.Shelf.SlSortCmp.NoneTotal
import Derived.Carry
import Derived.Lib.AppendZerosOnto
import Derived.Test.YtidojbkhlenahaaGreatDoorPkProblemRights12
set_option maxRecDepth 100000
set_option maxHeartbeats 16000000
namespace Go.Proofs
open Go.Shelf
def Tryz.J2n:Go.Shelf.Ren:=⟨fun|6=>189|15=>243|14=>242|28=>283|29=>202|20=>275|21=>276|22=>277|23=>278|24=>279|25=>280|26=>281|27=>282|46=>299|47=>300|48=>301|49=>302|50=>303|57=>311|n=>n,fun|22=>42|24=>98|25=>134|3=>3|39=>149|0=>0|53=>150|55=>83|4=>4|46=>293|45=>292|50=>76|5=>5|9=>9|66=>311|70=>160|76=>325|77=>326|n=>n,fun|n=>n⟩
theorem Tryz.J2o:Go.Proofs.SlLaysF0.n6 Tryz.prog Tryz.J2n:=by
 constructor
 case f6=>exact ⟨Tryz.f189.name,by decide,Tryz.func189.trans (congrArg some (by kernel_rfl))⟩
 case f14=>exact ⟨Tryz.f242.name,by decide,Tryz.func242.trans (congrArg some (by kernel_rfl))⟩
 case f20=>exact ⟨Tryz.f275.name,by decide,Tryz.func275.trans (congrArg some (by kernel_rfl))⟩
 case f21=>exact ⟨Tryz.f276.name,by decide,Tryz.func276.trans (congrArg some (by kernel_rfl))⟩
 case f22=>exact ⟨Tryz.f277.name,by decide,Tryz.func277.trans (congrArg some (by kernel_rfl))⟩
 case f23=>exact ⟨Tryz.f278.name,by decide,Tryz.func278.trans (congrArg some (by kernel_rfl))⟩
 case f24=>exact ⟨Tryz.f279.name,by decide,Tryz.func279.trans (congrArg some (by kernel_rfl))⟩
 case f25=>exact ⟨Tryz.f280.name,by decide,Tryz.func280.trans (congrArg some (by kernel_rfl))⟩
 case f26=>exact ⟨Tryz.f281.name,by decide,Tryz.func281.trans (congrArg some (by kernel_rfl))⟩
 case f27=>exact ⟨Tryz.f282.name,by decide,Tryz.func282.trans (congrArg some (by kernel_rfl))⟩
 case f46=>exact ⟨Tryz.f299.name,by decide,Tryz.func299.trans (congrArg some (by kernel_rfl))⟩
 case f49=>exact ⟨Tryz.f302.name,by decide,Tryz.func302.trans (congrArg some (by kernel_rfl))⟩
 case f50=>exact ⟨Tryz.f303.name,by decide,Tryz.func303.trans (congrArg some (by kernel_rfl))⟩
 case f57=>exact ⟨Tryz.f311.name,by decide,Tryz.func311.trans (congrArg some (by kernel_rfl))⟩
 all_goals first|kernel_rfl|(intros;kernel_rfl)|decide
end Go.Proofs
namespace Go.Proofs.YtidojbkhlenahaaGreatDoor
open Go.RowKit WordsM Go.Sort
structure SM [LT ZK] (w:World) (blk:Nat) where
 m:Q00
 aw:OA
 lw:Nat
 cw:Nat
 be:Nat
 oe:Nat
 le:Nat
 ce:Nat
 hi:Q0q w (some ⟨be,oe,none⟩) le ce m.es
 ne:be≠blk
 lt:be<w.heap.size
 hw:WordsIn w aw lw cw m.ws
def Qn4 [LT ZK] {w:World} {blk:Nat} (x:SM w blk):LV:=[.bool x.m.neg,.int .i64 x.m.exp,.slice x.aw x.lw x.cw,.slice (some ⟨x.be,x.oe,none⟩) x.le x.ce]
def cfM [LT ZK] {w:World} {blk:Nat} (x y:SM w blk):Int:=Q3e y.m.es x.m.es
theorem Qvg [LT ZK] {w:World} {blk:Nat} (x:SM w blk):(Qn4 x).length=4:=rfl
theorem Qvh [LT ZK] {w:World} {blk:Nat} (x:SM w blk):∀v∈Qn4 x,v.oneCell'=true:=by
 intro v hv;simp[Qn4] at hv;rcases hv with rfl|rfl|rfl|rfl <;> rfl
section
variable {α:Type} [Inhabited α]
theorem Qfe (enc:α->LV) (k:Nat) (w:World) (blk off n:Nat) (dk:Array α) (os:Array Obj) {p:Addr} (hp:p.block<w.heap.size) (P0:p.block≠blk):(sortWorldK enc k w blk off n dk os).cell? p=w.cell? p:=by
 unfold sortWorldK;have Y1:(putRowK enc k (Sort.ahead w n) blk off dk).heap.size=w.heap.size:=by unfold putRowK;rw[size_putRow];rfl
 rw[cell?_grow _ _ _ (by rw[Y1];exact hp),cell?_putRowK_other _ _ _ _ _ _ _ P0];rfl
theorem Qff (enc:α->LV) (k:Nat) (w:World) (blk off n:Nat) (dk:Array α) (os:Array Obj) {i:Nat} (hp:i<w.heap.size) (P0:i≠blk):(sortWorldK enc k w blk off n dk os).heap[i]?=w.heap[i]?:=by
 unfold sortWorldK;have Y1:(putRowK enc k (Sort.ahead w n) blk off dk).heap.size=w.heap.size:=by unfold putRowK;rw[size_putRow];rfl
 rw[heap_grow_old _ _ (by rw[Y1];exact hp)];unfold putRowK putRow mapBlock
 show ((Sort.ahead w n).heap.modify blk _)[i]?=_
 rw[Array.getElem?_modify,Us (fun e=>P0 e.symm)];rfl
theorem Qal (enc:α->LV) (k:Nat) (w:World) (blk off n:Nat) (dk:Array α) (os:Array Obj):w.heap.size<=(sortWorldK enc k w blk off n dk os).heap.size:=by
 unfold sortWorldK;rw[size_grow];have Y1:(putRowK enc k (Sort.ahead w n) blk off dk).heap.size=w.heap.size:=by unfold putRowK;rw[size_putRow];rfl
 omega
end
theorem SM.ints [LT ZK] {w w':World} {blk:Nat} (x:SM w blk) (hs:w.heap.size<=w'.heap.size) (hc:∀p:Addr,p.block<w.heap.size->p.block≠blk->w'.cell? p=w.cell? p):Q0q w' (some ⟨x.be,x.oe,none⟩) x.le x.ce x.m.es:=by
 refine ⟨x.hi.len,x.hi.cap,x.hi.most,x.hi.rng,?_⟩;rcases x.hi.rd with h0|⟨b,o,e,hb,x4⟩
 ·exact .inl h0
 ·refine .inr ⟨b,o,e,Ue hb hs,fun j y hy=>?_⟩;injection e with e;injection e with e1 e2;exact (hc ⟨b,o+j,none⟩ hb (by rw[<-e1];exact x.ne)).trans (x4 j y hy)
theorem Qdg [LT ZK] (u0 u1 u2:Value) (a:OA) (n c:Nat) (E:List Int) (v0 v1 v2:Value) (b:OA) (m d:Nat) (F:List Int) (w:World) (h1:Q0q w a n c E) (h2:Q0q w b m d F):
 Calls Tryz.prog 93 #[.agg #[u0,u1,u2,.slice a n c],.agg #[v0,v1,v2,.slice b m d]] w fun r w'=>r=.returned (.int .i64 (Q3e F E))/\w'=(w.alloc (.cells #[u0,u1,u2,.slice a n c] 98)).alloc (.cells #[v0,v1,v2,.slice b m d] 98):=by
 have A0:Bw w (w.alloc (.cells #[u0,u1,u2,.slice a n c] 98)):=Ba;have D2:(w.alloc (.cells #[u0,u1,u2,.slice a n c] 98)).heap.size=w.heap.size+1:=Uk _ _;have D0:Below (w.alloc (.cells #[u0,u1,u2,.slice a n c] 98)).heap.size (w.alloc (.cells #[u0,u1,u2,.slice a n c] 98)) ((w.alloc (.cells #[u0,u1,u2,.slice a n c] 98)).alloc (.cells #[v0,v1,v2,.slice b m d] 98)):=Ba;have hX:=(Q32.new w u0 u1 u2 (.slice a n c) 98).step D0 (Q0p _ _);have hY:=Q32.new (w.alloc (.cells #[u0,u1,u2,.slice a n c] 98)) v0 v1 v2 (.slice b m d) 98;rw[D2] at hY;have hB:=Below.next0 A0 D0;generalize hW:(w.alloc (.cells #[u0,u1,u2,.slice a n c] 98)).alloc (.cells #[v0,v1,v2,.slice b m d] 98)=W at hX hY hB;have VH:=hX.c3;have hy3:=hY.c3;have R2:=Qd5 b m d F a n c E W (h2.step hB) (h1.step hB);have HC:=Ua R2;clear A0 D2 D0 hX hY hB R2 h1 h2
 go_enter Tryz.func93,Tryz.ntmps93
 go_wp2_with (refine HC.out.mono ?_;rintro r w1 ⟨rfl,rfl⟩)
 go_ret;exact ⟨rfl,rfl⟩
theorem Qvi [LT ZK] {w:World} {blk:Nat}:SWO (ltOf (cfM (w:=w) (blk:=blk))):=by
 refine ⟨fun x=>?_,fun x y z h1 h2=>?_,fun x y z h1 h2=>?_⟩
 ·unfold ltOf cfM;rw[Qcg];rfl
 ·unfold ltOf cfM at*;rw[TG] at*;have a1:=Q3t y.m.es x.m.es;have a2:=Q3t z.m.es y.m.es;have a3:=Q3t z.m.es x.m.es;have:=Q66 x.m.es y.m.es z.m.es (by omega) (by omega);omega
 ·unfold ltOf cfM at*;rw[Tq] at*;intro h3;have a3:=Q3t z.m.es x.m.es
  by_cases e1:Q3e y.m.es x.m.es=0
  ·have e:=(Q8i _ _).1 e1;rw[e] at h2;exact h2 h3
  ·by_cases e2:Q3e z.m.es y.m.es=0
   ·have e:=(Q8i _ _).1 e2;rw[<-e] at h1;exact h1 h3
   ·have:=Q66 z.m.es y.m.es x.m.es (by omega) (by omega);omega
theorem Qvj [LT ZK] {B g n c:Nat} {w:World} {outs:List Q00} (h:Q2m B w (some ⟨g,0,none⟩) n c outs) (hn:n<=1000) (d6:∀m∈outs,-65536<=m.exp/\m.exp<=65536):
 Calls Tryz.prog 189 #[.slice (some ⟨g,0,none⟩) n c,.func (.func 93) #[] #[]] w fun r w'=>r=.returned (.tuple #[])/\
  ∃outs',Q0e w' (some ⟨g,0,none⟩) n c outs'/\outs'.Perm outs/\outs'.Pairwise (fun p q=>¬Q3e p.es q.es<0)/\Below B w w':=by
 have hg:=h.lt rfl;have W8:B<=g:=hg.1;have M6:g<w.heap.size:=hg.2;obtain ⟨xs,QI⟩:=h.row;have D4:∀j m,outs[j]?=some m->∃x:SM w g,x.m=m/\(∀c,c<4->w.cell? ⟨g,j*4+c,none⟩=some (Qn4 x)[c]!):=fun j m hm=>by
  obtain ⟨g',e,aw,lw,cw,be,oe,le,ce,h0,h1,h2,h3,h4,h5,h6,h7⟩:=h.ent j m hm;injection e with e;injection e with e;subst e;refine ⟨⟨m,aw,lw,cw,be,oe,le,ce,h5,h6,h7,h4⟩,rfl,fun c hc=>?_⟩
  match c,hc with
  |0,_=>exact h0
  |1,_=>exact h1
  |2,_=>exact h2
  |3,_=>exact h3
 have J4:=QI.1.cap;have eg:∀args w,(callFunc 93 args).run Tryz.prog w=.ok (.enter 93 args) w:=enters_of Tryz.func93 (by kernel_rfl) rfl
 by_cases P0:outs=[]
 ·subst P0;have G9:n=0:=h.len.symm;subst G9;have U3:=AnyQ.slices_SortFunc Tryz.J2o 4 (fun w=>by kernel_rfl) (fun w=>by kernel_rfl) (fun _:Unit=>[.bool false,.int .i64 0,.slice none 0 0,.slice none 0 0]) (fun _=>rfl) (fun _ v hv=>by simp at hv;rcases hv with rfl|rfl|rfl <;> rfl) (fun _ _=>0) ⟨fun _=>rfl,fun _ _ _ h _=>h,fun _ _ _ h _=>h⟩ 93 #[] g 0 c #[] w eg (fun m os dk _ x y=>by
   refine (Qdg _ _ _ none 0 0 [] _ _ _ none 0 0 [] _ ⟨rfl,Uf _,Ut _,⟨fun x hx=>(by cases hx),fun _ _ e=>(by cases e)⟩,.inl rfl⟩ ⟨rfl,Uf _,Ut _,⟨fun x hx=>(by cases hx),fun _ _ e=>(by cases e)⟩,.inl rfl⟩).mono ?_;rintro e w' ⟨rfl,rfl⟩;exact ⟨rfl,0,_,by rw[alloc_eq_grow,alloc_eq_grow,grow_grow];rfl⟩) (fun j hj=>by simp[flatK] at hj) hg.2 (by decide)
  refine Xbr (show Calls Tryz.prog 189 _ _ _ from U3) ?_;rintro e w' ⟨rfl,d',k,os,hp,hs,rfl⟩;exact ⟨rfl,[],⟨rfl,Ut _,by have:=J4.2;simpa[maxLen] using this,.inl rfl⟩,List.Perm.refl _,List.Pairwise.nil,rfl,rfl,rfl,Qal _ _ _ _ _ _ _ _,fun i hi=>Qff _ _ _ _ _ _ _ _ (by omega) (by omega)⟩
 obtain ⟨m0,C8⟩:∃m0,outs[0]?=some m0:=by
  cases outs with
  |nil=>exact absurd rfl P0
  |cons x r=>exact ⟨x,rfl⟩
 obtain ⟨x0,_,_⟩:=D4 0 m0 C8
 haveI:Inhabited (SM w g):=⟨x0⟩
 obtain ⟨d,C6,A7⟩:∃d:Array (SM w g),d.toList.map (·.m)=outs/\∀j,j<d.size->∀c,c<4->w.cell? ⟨g,j*4+c,none⟩=some (Qn4 d[j]!)[c]! :=by
  refine ⟨(List.ofFn fun j:Fin outs.length=>Classical.choose (D4 j.val _ (Ub j.isLt))).toArray,?_,fun j hj c hc=>?_⟩
  ·rw[List.toList_toArray,List.map_ofFn];refine Xax fun i=>?_;rw[List.getElem?_ofFn]
   by_cases hi:i<outs.length
   ·rw[dif_pos hi,Ub hi];exact congrArg some (Classical.choose_spec (D4 i _ (Ub hi))).1
   ·rw[dif_neg hi,UU (by omega)]
  ·have Yd:j<outs.length:=(by simpa using hj);have e:(List.ofFn fun j:Fin outs.length=>Classical.choose (D4 j.val _ (Ub j.isLt))).toArray[j]! =Classical.choose (D4 j _ (Ub Yd)):=by
    rw[getElem!_pos _ j hj];simp
   rw[e];exact (Classical.choose_spec (D4 j _ (Ub Yd))).2 c hc
 have YT:d.size=n:=by rw[<-h.len,<-C6,UF,Xbk]
 have hH:HoldsK Qn4 4 w g 0 d:=by
  intro t ht;rw[size_flatK] at ht;rw[get_flatK _ _ _ t ht,UV];have h1:=A7 (t / 4) (by omega) (t%4) (TP _ (by decide));rw[show t / 4*4+t%4=t by omega] at h1;exact ⟨h1,QI.1.frozen0 t⟩
 have U4:CmpLays Tryz.prog 93 #[] (Qn4 (w:=w) (blk:=g)) 4 cfM g 0 d.size w:=by
  intro m os dk _ x y;have hs:=Qal (Qn4 (w:=w) (blk:=g)) 4 w g 0 m dk os;have hc:=fun p h1 h2=>Qfe (Qn4 (w:=w) (blk:=g)) 4 w g 0 m dk os (p:=p) h1 h2;refine (Qdg _ _ _ _ _ _ _ _ _ _ _ _ _ _ _ (x.ints hs hc) (y.ints hs hc)).mono ?_;rintro e w' ⟨rfl,rfl⟩;exact ⟨rfl,0,_,by rw[alloc_eq_grow,alloc_eq_grow,grow_grow];rfl⟩
 have U3:=AnyQ.slices_SortFunc Tryz.J2o 4 (fun w=>by kernel_rfl) (fun w=>by kernel_rfl) (Qn4 (w:=w) (blk:=g)) Qvg Qvh cfM Qvi 93 #[] g 0 c d w eg U4 hH hg.2 (by omega);rw[YT] at U3;refine Xbr (show Calls Tryz.prog 189 _ _ _ from U3) ?_;rintro e w' ⟨rfl,d',k,os,hp,hs,rfl⟩;have hperm:d'.toList.Perm d.toList:=by
  have h1:=hp.2.2;have e1:(d'.extract 0 n)=d':=by rw[show n=d'.size by rw[hp.1,YT],Array.extract_size]
  have e2:(d.extract 0 n)=d:=by rw[<-YT,Array.extract_size]
  rwa[e1,e2] at h1
 have hdsz:d'.size=n:=by rw[hp.1,YT]
 have Xb:(d'.toList.map (·.m)).Perm outs:=by rw[<-C6];exact hperm.map _
 have hH':=holdsK_sortWorldK (Qn4 (w:=w) (blk:=g)) 4 w g 0 k d d' os hg.2 hH hp.1;have VI:=Qal (Qn4 (w:=w) (blk:=g)) 4 w g 0 k d' os;have hce:=fun p h1 h2=>Qfe (Qn4 (w:=w) (blk:=g)) 4 w g 0 k d' os (p:=p) h1 h2;refine ⟨rfl,d'.toList.map (·.m),⟨by rw[UF,Xbk,hdsz],J4.1,by have:=J4.2;simpa[maxLen] using this,.inr ⟨g,0,rfl,Ue hg.2 VI,fun j m hm=>?_⟩⟩,Xb,?_,rfl,rfl,rfl,VI,fun i hi=>Qff _ _ _ _ _ _ _ _ (by omega) (by omega)⟩
 ·have hj:j<d'.size:=by have:=(Ui.1 hm).1;simpa using this
  have JQ:d'[j]!.m=m:=by
   rw[UK,Tn,Ta hj] at hm;rw[getElem!_pos d' j hj];simpa using hm
  have hc:=fun c (hc:c<4)=>(hH'.cell hj hc).1;have hb:=d6 m (Xb.mem_iff.1 (Ug hm));have hwx:WordsIn (sortWorldK (Qn4 (w:=w) (blk:=g)) 4 w g 0 k d' os) d'[j]!.aw d'[j]!.lw d'[j]!.cw d'[j]!.m.ws:=by
   have hw:=d'[j]!.hw;refine ⟨hw.len,hw.cap,hw.most,hw.low,?_⟩;rcases QI.off hw with h0|ho
   ·exact .inl h0
   rcases hw.rd with h0|⟨b,o,e,V5,x4⟩
   ·exact .inl h0
   ·exact .inr ⟨b,o,e,Ue V5 VI,fun i x hx=>(hce ⟨b,o+i,none⟩ V5 (fun e2=>ho _ e ⟨_,rfl,e2.symm⟩)).trans (x4 i x hx)⟩
  subst JQ;exact ⟨_,_,_,_,_,_,hc 0 (by decide),hc 1 (by decide),hc 2 (by decide),hc 3 (by decide),hwx,d'[j]!.ints VI hce,by omega,by omega⟩
 ·rw[List.pairwise_map,List.pairwise_iff_getElem];intro i j hi hj XG;have h1:=hs i j (Ut _) XG (by have:j<d'.size:=(by simpa using hj);omega)
  have g9:i<d'.size:=by simpa using hi
  have Yd:j<d'.size:=by simpa using hj
  rw[getElem!_pos d' i g9,getElem!_pos d' j Yd] at h1;unfold ltOf cfM at h1;rw[Tq] at h1;simpa using h1
theorem Qvk [LT ZK] {B n c:Nat} {w:World} {a:OA} {outs:List Q00} (h:Q2m B w a n c outs) (hn:n<=1000) (d6:∀m∈outs,-65536<=m.exp/\m.exp<=65536):
 Calls Tryz.prog 189 #[.slice a n c,.func (.func 93) #[] #[]] w fun r w'=>r=.returned (.tuple #[])/\
  ∃outs',Q0e w' a n c outs'/\outs'.Perm outs/\outs'.Pairwise (fun p q=>¬Q3e p.es q.es<0)/\Below B w w':=by
 obtain ⟨xs,hr⟩:=h.row;rcases hr.1.form with ⟨h0,h1⟩|⟨g,cur,h0,_⟩
 ·subst h0;obtain ⟨rfl,rfl⟩:n=0/\c=0:=by omega
  have ho:outs=[]:=Ty h.len;subst ho;have U3:=AnyF.slices_SortFunc_none Tryz.J2o none 0 (.func (.func 93) #[] #[]) w;refine Xbr (show Calls Tryz.prog 189 _ _ _ from U3) ?_;rintro e w' ⟨rfl,rfl⟩;exact ⟨rfl,[],⟨rfl,Uf _,by decide,.inl rfl⟩,List.Perm.refl _,List.Pairwise.nil,Uc _ _⟩
 ·subst h0;exact Qvj h hn d6
theorem Qxu {k:Nat} {l:List Q0l} {all outs outs':List Q00} (J2:1<=k) (R5:k<=4) (Q6:(Qaw l).Perm (Q3u l)) (i4:¬(Q3u l).any (fun p=> !Qa4 p.1)=true) (h:all.map Q00.term=Qaw l) (ho:outs.map Q00.term=(all.map Q00.term).filter (fun p=>decide (p.1≠0))) (WC:outs.length<=24) (hp:outs'.Perm outs) (hs:outs'.Pairwise (fun p q=>¬Q3e p.es q.es<0)) (O1:∀m∈outs,OkM k m):
 Q3q l=.ok (outs'.map Q00.term)/\Q1p k outs':=by
 have hl:outs.length=((Q3u l).filter fun p=>decide (p.1≠0)).length:=by
  rw[<-UF (f:=Q00.term),ho,h];exact (Q6.filter _).length_eq
 have KN:(outs'.map Q00.term).Perm ((Q3u l).filter fun p=>decide (p.1≠0)):=by
  refine (hp.map _).trans ?_;rw[ho,h];exact Q6.filter _
 have hD:Qe9 ((Q3u l).filter fun p=>decide (p.1≠0)):=List.Pairwise.filter _ (Qbm l).1;have P0:(outs'.map Q00.term).Pairwise fun p q=>p.2≠q.2:=KN.symm.pairwise hD.once (fun {p q} h e=>h e.symm);have hd:outs'.Pairwise fun p q=>0<Q3e p.es q.es:=by
  rw[List.pairwise_map] at P0;refine (hs.and P0).imp fun {p q} h=>?_;have e0:Q3e p.es q.es≠0:=fun e=>h.2 ((Q8i _ _).1 e);have:=h.1;omega
 have hD':Qe9 (outs'.map Q00.term):=by
  unfold Qe9;rw[List.pairwise_map];exact hd
 refine ⟨?_,J2,R5,by rw[hp.length_eq];exact WC,fun m hm=>O1 m (hp.mem_iff.1 hm),hd⟩;unfold Q3q;rw[Us i4,Us (by rw[<-hl];omega)];exact congrArg _ (Qe9.same hD hD' fun p=>(KN.mem_iff).symm)
theorem Q2m.exps [LT ZK] {B n c k:Nat} {w:World} {a:OA} {outs:List Q00} (h:Q2m B w a n c outs) (O1:∀m∈outs,OkM k m):∀m∈outs,-65536<=m.exp/\m.exp<=65536:=by
 intro m hm;obtain ⟨j,hj,rfl⟩:=List.getElem_of_mem hm;obtain ⟨g,_,aw,lw,cw,be,oe,le,ce,_,_,_,_,hw,_⟩:=h.ent j _ (Ub hj);exact (Q6e (O1 _ hm).1.2 hw.low).2
end Go.Proofs.YtidojbkhlenahaaGreatDoor
namespace Go.Proofs.YtidojbkhlenahaaGreatDoor
open Go.RowKit WordsM
theorem Q7u:(Tryz.prog.info? 98).map (fun i=>(i.zero,i.size,i.bytes))=some (some (.agg #[.bool false,.int .i64 0,.slice none 0 0,.slice none 0 0]),4,64):=by kernel_rfl
theorem Qbw:∀u∈(Value.agg #[.bool false,.int .i64 0,.slice none 0 0,.slice none 0 0]).cells.toList,NoU u:=by
 intro u hu;simp[Value.cells] at hu;rcases hu with rfl|rfl|rfl <;> exact fun _=>by simp[nv]
def Q1i [LT ZK] (w:World) (n:Nat) (X:Except Int (List Q0l)) (r:Ending) (w':World):Prop:=Bw w w'/\match X with
 | .error er=>∃a l c,r=.returned (.tuple #[.slice a l c,.int .i64 er])
 | .ok P=>∃a l c ms,r=.returned (.tuple #[.slice a l c,.int .i64 0])/\Q0e w' a l c ms/\ms.map Q00.term=P/\Q1p n ms
theorem Q1i.err [LT ZK] {w w':World} {n:Nat} {X:Except Int (List Q0l)} {er:Int} {a:OA} {l c:Nat} (hX:X=.error er) (hb:Bw w w'):Q1i w n X (.returned (.tuple #[.slice a l c,.int .i64 er])) w':=⟨hb,by rw[hX];exact ⟨_,_,_,rfl⟩⟩
theorem Q2h {n:Bool} {e:Int} {L:LN} {w:World} {a:OA} {l c:Nat} (h:Q0a n e L) (hw:WordsIn w a l c L):l<=64/\-65536<=e/\e<=65536:=by
 have:=Q6e h hw.low;rw[hw.len] at this;exact this
theorem Q0q.onBlock [LT ZK] {w w':World} {ae:OA} {le ce:Nat} {E:List Int} (h5:Q0q w ae le ce E) (hs:w.heap.size<=w'.heap.size) (mb:Nat) (Vm:∀o,w.cell? ⟨mb,o,none⟩=none) (hk:∀k,k<w.heap.size->k≠mb->w'.heap[k]?=w.heap[k]?):Q0q w' ae le ce E:=by
 refine ⟨h5.len,h5.cap,h5.most,h5.rng,?_⟩;rcases h5.rd with h8|⟨b,oo,e,hb,x4⟩
 ·exact .inl h8
 ·refine .inr ⟨b,oo,e,Ue hb hs,fun i x hx=>?_⟩;have h9:=x4 i x hx;have P0:b≠mb:=fun e=>by subst e;rw[Vm] at h9;cases h9
  exact (UR (a:=⟨b,oo+i,none⟩) (hk b hb P0)).trans h9
theorem Q32.onKept {w w':World} {b:Nat} {v0 v1 v2 v3:Value} (h:Q32 w b v0 v1 v2 v3) (hk:w'.heap[b]?=w.heap[b]?):Q32 w' b v0 v1 v2 v3:=by
 have x4:∀o,w'.cell? ⟨b,o,none⟩=w.cell? ⟨b,o,none⟩:=fun o=>UR (a:=⟨b,o,none⟩) hk;have VV:∀o,w'.frozen? ⟨b,o,none⟩=w.frozen? ⟨b,o,none⟩:=fun o=>Xao (a:=⟨b,o,none⟩) hk;exact ⟨(x4 0).trans h.c0,(x4 1).trans h.c1,(x4 2).trans h.c2,(x4 3).trans h.c3,(VV 0).trans h.f0,(VV 1).trans h.f1,(VV 2).trans h.f2,(VV 3).trans h.f3⟩
theorem Qp3 [LT ZK] {B:Nat} {w:World} {g n c:Nat} {all:List Q00} (h:Q2m B w (some ⟨g,0,none⟩) n c all) (i:Nat):w.frozen? ⟨g,i,none⟩=false:=by
 obtain ⟨xs,hr⟩:=h.row;exact hr.1.frozen0 i
theorem Qp4 [LT ZK] {w0 w2 w3 w4:World} {mb n B N c p9 le ce:Nat} {g:P4->Option Nat} {a:OA} {all:List Q00} {v0 v1 v2 v3:Value} {ae:OA} {E:List Int} (hm:mb<p9) (h9:p9<w2.heap.size) (I0:Bw w2 w3) (hp:Q4w w3 mb n g) (hg:w3.grownBy w4 (some mb)) (R0:Q2m B w3 a N c all) (hX:Q32 w3 p9 v0 v1 v2 v3) (hE:Q0q w3 ae le ce E):
 Q2m B w4 a N c all/\Q32 w4 p9 v0 v1 v2 v3/\Q0q w4 ae le ce E/\w3.heap.size<=w4.heap.size/\(w0.heap.size<=mb->Bw w0 w3->Bw w0 w4):=by
 have hk:∀k,k<w3.heap.size->k≠mb->w4.heap[k]?=w3.heap[k]?:=fun k h1 h2=>hg.block k h1 (fun e=>h2 (by injection e));have h3:p9<w3.heap.size:=Ue h9 I0.size;have V5:=hk p9 h3 (by omega);have x4:∀o,w4.cell? ⟨p9,o,none⟩=w3.cell? ⟨p9,o,none⟩:=fun o=>UR (a:=⟨p9,o,none⟩) V5;have VV:∀o,w4.frozen? ⟨p9,o,none⟩=w3.frozen? ⟨p9,o,none⟩:=fun o=>Xao (a:=⟨p9,o,none⟩) V5;refine ⟨R0.onBlock hg.size mb hp.cells (fun x hx=>hp.ne R0 hx) hk,⟨(x4 0).trans hX.c0,(x4 1).trans hX.c1,(x4 2).trans hX.c2,(x4 3).trans hX.c3,(VV 0).trans hX.f0,(VV 1).trans hX.f1,(VV 2).trans hX.f2,(VV 3).trans hX.f3⟩,hE.onBlock hg.size mb hp.cells hk,hg.size,fun h0 hb=>?_⟩;exact hb.trans ⟨hg.os,hg.tape,hg.output,hg.size,fun k h1=>hk k (Ue h1 hb.size) (by omega)⟩
theorem Qvl {w wr w2 w3 w4 w5:World} (h1:Bw w wr) (h2:Bw wr w2) (h4:w3.heap.size<=w4.heap.size) (h3:w2.heap.size<=w3.heap.size) (h5:Bw w4 w5):w.heap.size<=w5.heap.size+1:=by
 have:=h1.size;have:=h2.size;have:=h5.size;omega
theorem Qsg [LT ZK] {w:World} {ms:List Q00} {k mb i j g N c:Nat} {all:List Q00} {m mj:Q00} {wc w8:World} {b:Bool} {e:Int} {al:OA} {ll cl:Nat} {L:LN} (E0:i<ms.length) (hN:N<=i+1) (R0:Q2m w.heap.size wc (some ⟨g,0,none⟩) N c all) (JQ:all[j]?=some mj)
 (t6:∀b e L,Q1r b e L=Q1r mj.neg mj.exp mj.ws+Q1r m.neg m.exp m.ws->(all.set j ⟨b,e,L,mj.es⟩).map Q00.term=Qaw ((ms.take (i+1)).map Q00.term)) (ZG:∀m∈all,Qxs k (69632+64*(i:Int)) m) (U9:Q4w wc mb N (Q3l all)) (hb:Bw w wc)
 (hw8:WordsIn w8 al ll cl L) (Ji:Q1r b e L=Q1r mj.neg mj.exp mj.ws+Q1r m.neg m.exp m.ws) (hl8: -65536<=e) (hh8:e<=65536) (ht8:64*(ll:Int)+e<=69632+64*(i:Int)+64) (G7:Bw wc w8):
 Qsf w ms k mb (.slice (some ⟨g,0,none⟩) N c) (.int .i64 ((i:Int)+1)) (((w8.setCell ⟨g,j*4,none⟩ (.bool b)).setCell ⟨g,j*4+1,none⟩ (.int .i64 e)).setCell ⟨g,j*4+2,none⟩ (.slice al ll cl)):=by
 have hg:=(R0.lt rfl).1;have WT:=R0.step G7;have hp8:=U9.below G7;refine ⟨i+1,_,N,c,_,rfl,congrArg (Value.int .i64) (by omega),E0,hN,WT.put JQ hw8,t6 b e L Ji,fun m' o8=>?_,?_,(((Below.next0 hb G7).setCell (p:=⟨g,j*4,none⟩) hg _).setCell (p:=⟨g,j*4+1,none⟩) hg _).setCell (p:=⟨g,j*4+2,none⟩) hg _⟩
 ·rcases Xa3 o8 with h1|rfl
  ·obtain ⟨a1,a2,a3,a4⟩:=ZG m' h1;exact ⟨a1,a2,a3,by omega⟩
  ·have hl:=hw8.len;exact ⟨(ZG mj (Ug JQ)).1,hl8,hh8,by show 64*(L.length:Int)+e<=_;omega⟩
 ·rw[Qse (m':=⟨b,e,L,mj.es⟩) JQ rfl];have P0:mb≠g:=fun e=>hp8.ne WT rfl e.symm;exact hp8.keep ((Td _ _ _ _ P0).trans ((Td _ _ _ _ P0).trans (Td _ _ _ _ P0)))
theorem Qn5 (l:List Q0l):(Qaw l).Perm (Q3u l):=by
 have h1:(Qaw l).Nodup:=((Qqq l).1.imp fun {p q} h e=>h (by rw[e]));have h2:(Q3u l).Nodup:=((Qbm l).1.once.imp fun {p q} h e=>h (by rw[e]));exact (List.perm_ext_iff_of_nodup h1 h2).2 fun p=>Qg2 l p
theorem Qj7 {l:List Q0l} {all:List Q00} (h:all.map Q00.term=Qaw l) (hf:∀m∈all,Q64 m.term.1):¬(Q3u l).any (fun p=> !Qa4 p.1)=true:=by
 intro ha;obtain ⟨p,hp,Y5⟩:=Xbl.1 ha;have h1:=(Qg2 l p).2 hp;rw[<-h] at h1;obtain ⟨m,hm,rfl⟩:=Tx.1 h1;rw[(Q1j _).2 (hf m hm)] at Y5;cases Y5
theorem Qsh {l:List Q0l} {all outs:List Q00} (h:all.map Q00.term=Qaw l) (ho:outs.map Q00.term=(all.map Q00.term).filter (fun p=>decide (p.1≠0))) (hf:∀m∈all,Q64 m.term.1) (WC:24<outs.length):Q3q l=.error 6:=by
 have hl:outs.length=((Q3u l).filter fun p=>decide (p.1≠0)).length:=by
  rw[<-UF (f:=Q00.term),ho,h];exact ((Qn5 l).filter _).length_eq
 unfold Q3q;rw[Us (Qj7 h hf),Uu (by rw[<-hl];exact WC)]
def Qz2 [LT ZK] (wl:World) (all:List Q00) (k:Nat) (s12 s72:Value) (wx:World):Prop:=
 ∃(q:Nat) (a:OA) (M c:Nat) (outs:List Q00),s12=.slice a M c/\s72=.int .i64 (q:Int)/\q<=all.length/\M<=q/\Q2m wl.heap.size wx a M c outs/\
  outs.map Q00.term=((all.take q).map Q00.term).filter (fun p=>decide (p.1≠0))/\(∀m∈outs,OkM k m)/\(∀m∈all.take q,Q64 m.term.1)/\Bw wl wx
theorem Q5u [LT ZK] (a:OA) (n c:Nat) (ms:List Q00) (k:Nat) (w:World) (h:Q0e w a n c ms) (O1:∀m∈ms,Qle k m) (J2:1<=k) (hk:k<=4) (hn:n<=600) (hT:Q1s w):
 Calls Tryz.prog 133 #[.slice a n c,.int .i64 (k:Int)] w (Q1i w k (Q3q (ms.map Q00.term))):=by
 obtain ⟨i0,O2,E2,I2,X1⟩:=Q1c Q7u;have Q2:=h.1;subst Q2;obtain ⟨X,hX⟩:∃X,Q3q (ms.map Q00.term)=X:=⟨_,rfl⟩;rw[hX];have A0:Bw w (w.alloc (.cells #[.int .i64 (k:Int)] 3)):=Ba;have Ye:Qxo (w.alloc (.cells #[.int .i64 (k:Int)] 3)) w.heap.size k:=⟨by rw[Uw _ _ _ _ _ _ (Uo _ _)];rfl,Q0p _ _⟩;have hkc:=Ye.cell;have hhas:=Qlh a ms.length c ms w.heap.size k _ (h.step A0) O1 hk Ye;have hk1':¬(k:Int)<1:=by omega
 have hk4':¬(4:Int)<(k:Int):=by omega
 have H:=Xh9 h O1 J2 hk hn hT hX A0 hhas;have HI:=Xh4 O2 E2 I2 X1;have R2:=Ul h.2.1 h.2.2.1;clear h O1 J2 hk hn hT hX A0 hhas Ye O2 E2 I2 X1;have Kn:= @run_makeMap Tryz.prog
 go_enter Tryz.func133,Tryz.ntmps133
 go_wp2_with (go_at_call_of 184 a;refine (Xe8 H).mono ?_;rintro r w1 ⟨rfl,Qh⟩;have O0:=Ua Qh;clear Qh)
 have hbm:Bw w (w1.alloc (.map #[] 0)):=by
  have h1:=Below.next0 (Xo7 H) O0.out;exact h1.alloc h1.size _
 have HB:=Ua hbm;clear hbm Kn
 go_loopw [7,31] (fun s7 s31 wr=>Qsf w ms k w1.heap.size s7 s31 wr) (fun _ iv _=>ms.length-(intOf iv).toNat)
 case atStart=>
  exact ⟨0,none,0,0,[],rfl,rfl,Ut _,Uf _,Q2m.nil_ _ _,rfl,(fun m hm=>by cases hm),Q4w.made _,HB.out⟩
 case round=>
  obtain ⟨i,a1,N,c1,all,rfl,rfl,hi,hNi,R0,Q6,ZG,U9,M0⟩:=hrel
  by_cases E0:i<ms.length
  ·have F0:(i:Int)<(ms.length:Int):=(by omega);obtain ⟨m,hm⟩:∃m,ms[i]?=some m:=⟨_,Ub E0⟩;obtain ⟨b0,o0,rfl,Z0,R1⟩:∃b o,a=some ⟨b,o,none⟩/\b<wr.heap.size/\∀j m,ms[j]?=some m->Q41 wr b (o+j*4) m:=by
    rcases ((Xo0 H).step M0).2.2.2 with h0|h0
    ·rw[h0] at E0;simp at E0
    ·exact h0
   obtain ⟨aw,lw,cw,ae,le,ce,k0,k1,k2,k3,hw,he,S4,Q3⟩:=R1 i m hm;have hfm:Qle k m:=(Xo1 H) m (Ug hm);have KX:m.es.length=k:=hfm.1.1;have Ym:m.es≠[]:=fun e=>by rw[e] at KX;have:=(Xo2 H);simp at KX;omega
   have C4:∀x∈m.es,small x:=fun x hx=>he.rng.1 x hx;have hq:=J01 C4;have hX:=Q32.new wr (.bool m.neg) (.int .i64 m.exp) (.slice aw lw cw) (.slice ae le ce) 98;have K1:Bw wr (wr.alloc (.cells #[.bool m.neg,.int .i64 m.exp,.slice aw lw cw,.slice ae le ce] 98)):=Ba;have K5:=Q0p wr (.cells #[.bool m.neg,.int .i64 m.exp,.slice aw lw cw,.slice ae le ce] 98);have hof:=fun W (hW:Bw wr W)=>Qoo m.neg m.exp aw lw cw ae le ce m.es W (he.step hW) (by have:=(Xo3 H);omega) Ym;obtain ⟨po,P6⟩:∃po,Q3l all (p4 m.es)=po:=⟨_,rfl⟩;have HPO:=Ua P6;clear P6;have HR:=Xh15 R0 Q6 ZG U9 M0 hm hw he hfm hq hof Ym hX K1 K5;obtain ⟨x0,x1,x2⟩:=hX.cc;have x3:=hX.c3;clear R0 Q6 ZG U9 M0 hm hw he hfm KX Ym C4 hq hX K1 K5 hof R1
   go_upto_if 43 with (go_at_call_of 186 aw;refine ((Xo10 HR) _ (Xo13 HR)).mono ?_;rintro r w2 ⟨rfl,D0⟩;(have Qr:=((Xo3 HR).below (Xo13 HR)).below D0);(have hlk:=Qr.look_ok (Xo9 HR));rw[HPO.out] at hlk;(have H2:=Xh2 D0 Qr);clear D0 Qr)
   have ZO:=Below.next0 (Xo13 HR) (Xo0 H2);have o9:=(Xo0 HR).step ZO;have A4:=(Xo12 HR).step (Xo0 H2) (Xe14 HR);have Kg:=Xh3 ZO o9 A4;have P1:N<=600:=(by have:=(Xo4 H);omega);have B5:=(Xo7 HR).len;have hle4:le<=4:=(by have:=(Xo8 HR).1.1;have:=(Xo3 H);omega);have VZ:=Ua B5;obtain ⟨y0,y1,y2⟩:=A4.cc;have y3:=A4.c3;have QU:Qaw ((ms.take (i+1)).map Q00.term)=Q5y (Qaw ((ms.take i).map Q00.term)) m.term:=by
    rw[Tr,(Xo5 HR),UZ,Option.toList_some,List.map_singleton,Qhm]
   have HTK:=Ua QU;clear ZO o9 A4 B5 x0 x1 x2 x3 QU
   go_cut [7,10] (fun s7 s10 wx=>Qxt w ms k w1.heap.size i wr.heap.size (.bool m.neg) (.int .i64 m.exp) aw lw cw (.slice ae le ce) m s7 s10 wx)
   case first=>
    cases po with
    |some j=>
     go_wp2_with fail
     go_meet;obtain ⟨mj,JQ,hpj⟩:=Qve HPO.out;have K0:∀m'∈all,m'.es.length=k:=fun m' o8=>((Xo2 HR) m' o8).1.1;have KX:=(Xo8 HR).1.1;have hej:mj.es=m.es:=Qwm (K0 mj (Ug JQ)) KX (Xo3 H) hpj;refine ⟨a1,N,c1,all,j,mj,rfl,rfl,by omega,(Xo1 Kg),JQ,hej,fun b e L hv=>?_,(Xo2 HR),(Xe1 H2),Below.next0 (Xo4 HR) (Xo0 Kg),(Xe2 Kg),Ue (Xe14 HR) (Xo0 H2).size,(Xo6 HR).step (Xo0 Kg)⟩;have x7:=Qak (Xo3 H) K0 KX;rw[HPO.out] at x7;rw[Qvf,HTK.out,Qj6 (j:=j) (q:=mj.term) (by rw[<-(Xo1 HR)];exact x7.symm) (by rw[<-(Xo1 HR),UK,JQ];rfl),<-(Xo1 HR)]
     congr 1
     show (Q1r b e L,mj.es)=(Q1r mj.neg mj.exp mj.ws+Q1r m.neg m.exp m.ws,mj.es)
     rw[hv]
    |none=>
     obtain ⟨O2,E2,I2,X1⟩:=HI.out;have hof2:=(Xo10 HR) w2 (Xo0 Kg);have HOF:=Ua hof2;clear hof2 hlk
     go_wp2_with (first
      |(go_at_call_of 186 aw;refine HOF.out.mono ?_;rintro r w3 ⟨rfl,I0⟩;(have VQ:=(Xe1 H2).below I0);(have Wc:=(Xo1 Kg).step I0);(have z9:=(Xe2 Kg).step I0 (Ue (Xe14 HR) (Xo0 H2).size));obtain ⟨w4,Y0,hp4,WB⟩:=VQ.store (Xo9 HR) (by omega) N;(have hs4:=Qp4 (w0:=w) (Xo3 HR).lt (Ue (Xe14 HR) (Xo0 H2).size) I0 VQ WB Wc z9 (((Xo7 HR).step (Xo0 Kg)).step I0));(have hw4:=(((Xo6 HR).step (Xo0 Kg)).step I0).onBlock WB.size w1.heap.size VQ.cells (fun q h1 h2=>WB.block q h1 (fun e=>h2 (by injection e))));(have HW4:=Ua hw4);clear hw4;(have z3:=hs4.2.1.c3);(have HW3:=Ua (Below.next0 (Below.next0 (Xo4 HR) (Xo0 Kg)) I0));(have Xf:=Xh4 hp4 hs4 WB I0.size);clear VQ Wc z9 I0 hp4 WB hs4)
      |(go_at_call_of 187 le;refine (Qb3 ae le ce m.es w4 (Xo1 Xf).2.2.1 (Xo11 HR) (by omega)).mono ?_;rintro r w5 ⟨g5,c5,rfl,WQ,C1⟩;(have Ki:=(Xo1 Xf).1.step C1);obtain ⟨xs5,ZX⟩:=Ki.row;obtain ⟨g6,c6,w6,D7,O3,C3,z5⟩:=Q25 (P:=Tryz.prog) NoU (w5.alloc (.cells #[.bool false,.int .i64 0,.slice none 0 0,.slice (some ⟨g5,0,none⟩) le c5] 98)) 42 42 98 i0 _ 4 64 Tryz.underlying42 O2 E2 I2 X1 rfl Qbw w.heap.size (by rw[Uk];exact (Qvl (Xo4 HR) (Xo0 Kg) (Xo1 Xf).2.2.2.1 (Xe3 Xf) C1)) a1 N c1 xs5 (ZX.step (Ba)) w5.heap.size 1 1 [.bool false,.int .i64 0,.slice none 0 0,.slice (some ⟨g5,0,none⟩) le c5] rfl (TR (cs:= #[.bool false,.int .i64 0,.slice none 0 0,.slice (some ⟨g5,0,none⟩) le c5]) (Uo w5 _)) (by simp[Value.oneCell']) (by intro u hu;simp at hu;rcases hu with rfl|rfl|rfl|rfl <;> exact fun _=>by simp[nv]) (by decide) (by omega) (by decide) (by decide);(have H5:=Xh7 Ki ZX WQ C1 O3 C3 z5);clear Ki ZX WQ C1 O3 C3 z5)
      |(at_builtin;refine Q0j rfl (.tmp 50) (.tmp 55) 42 42 rfl _ _ rfl rfl _ _ D7 ?_))
     go_meet;have Vm:w.heap.size<=w1.heap.size:=(Below.next0 (Xo7 H) O0.out).size;have XO:Bw w w3:=⟨HW3.out.os,HW3.out.tape,HW3.out.output,HW3.out.size,HW3.out.block⟩;have hw4:Bw w w4:=(Xo1 Xf).2.2.2.2 Vm XO;have hw5:=Below.next0 hw4 (Xo3 H5);have XT:∀x,a1=some x->x.block<w4.heap.size:=fun x hx=>((Xo1 Xf).1.lt hx).2;have hg5:=(Xo2 H5).fresh;have Wx:Bw w w6:=by
      have h1:=hw5.alloc hw5.size (.cells #[.bool false,.int .i64 0,.slice none 0 0,.slice (some ⟨g5,0,none⟩) le c5] 98);exact h1.trans ⟨(Xo5 H5).os,(Xo5 H5).tape,(Xo5 H5).output,(Xo5 H5).size,fun q hq=>(Xo5 H5).block q (Ue hq h1.size) (fun e=>by
       cases a1 with
       |none=>simp at e
       |some y=>simp only[UE,Up] at e;have:=((Xo0 H5).lt rfl).1;omega)⟩
     have JG:=(Xo0 H5).push (Xo1 H5) (o:=.cells #[.bool false,.int .i64 0,.slice none 0 0,.slice (some ⟨g5,0,none⟩) le c5] 98) (Xo5 H5) (Xe6 H5) (m:=⟨false,0,[],m.es⟩) (aw:=none) (lw:=0) (cw:=0) (be:=g5) (oe:=0) (le:=le) (ce:=c5) (Xo4 H5) rfl (Q2n.nil_ w5 w5).toWordsIn ((Xo2 H5).ints (fun x hx=>(Xo7 HR).rng.1 x hx)) hg5.2 (fun x hx e=>by have:=XT x hx;omega);have K0:∀m'∈all,m'.es.length=k:=fun m' o8=>((Xo2 HR) m' o8).1.1;have KX:=(Xo8 HR).1.1;have hN:all.length=N:=(Xo0 HR).len;refine ⟨some ⟨g6,0,none⟩,N+1,c6,all++[⟨false,0,[],m.es⟩],N,⟨false,0,[],m.es⟩,rfl,rfl,by omega,JG,?_,rfl,fun b e L hv=>?_,fun m' o8=>?_,?_,Wx,?_,?_,?_⟩
     ·rw[TI (by omega),hN,Nat.sub_self];rfl
     ·have x7:=Qak (Xo3 H) K0 KX;rw[HPO.out] at x7;rw[HTK.out,Qn3 (by rw[<-(Xo1 HR)];exact x7.symm),<-(Xo1 HR),List.set_append_right _ _ (by omega),hN,Nat.sub_self]
      show (all++[(⟨b,e,L,m.es⟩:Q00)]).map Q00.term=_
      rw[UZ]
      congr 1
      show [(Q1r b e L,m.es)]=[(Q1r m.neg m.exp m.ws,m.es)]
      rw[hv,Que,Dyadic.zero_add]
     ·rcases Tp.1 o8 with h1|h1
      ·exact (Xo2 HR) m' h1
      ·rw[UC] at h1;subst h1;exact ⟨(Xo8 HR).1,by simp,by simp,by simp;omega⟩
     ·rw[Qp2 (m:=⟨false,0,[],m.es⟩) hN HPO.out];have h5:=(Xo0 Xf).below (Xo3 H5);refine h5.keep (((Xo5 H5).block _ (by rw[Uk];exact Nat.lt_succ_of_lt h5.lt) (fun e=>?_)).trans (((Uc w5.heap.size w5).alloc (Uf _) _).block _ h5.lt));cases a1 with
      |none=>simp at e
      |some y=>simp only[UE,Up] at e;exact h5.ne (Xo0 H5) rfl e.symm
     ·have h9:wr.heap.size<w4.heap.size:=(by have h1:=(Xe14 HR);have h2:=(Xo0 H2).size;have h3:=(Xe3 Xf);have h4:=(Xo1 Xf).2.2.2.1;omega);have t7:=(Xo1 Xf).2.1.step (Xo3 H5) h9;have h95:=Ue h9 (Xo3 H5).size;refine t7.onKept (((Xo5 H5).block _ (by rw[Uk];exact Nat.lt_succ_of_lt h95) (fun e=>?_)).trans (((Uc w5.heap.size w5).alloc (Uf _) _).block _ h95));cases a1 with
      |none=>simp at e
      |some y=>simp only[UE,Up] at e;have:=((Xo0 HR).lt rfl).2;omega
     ·have h1:=(Xe14 HR);have h2:=(Xo0 H2).size;have h3:=(Xe3 Xf);have h4:=(Xo1 Xf).2.2.2.1;have h5:=(Xo3 H5).size;have h6:=(Xo5 H5).size;rw[Uk] at h6;omega
     ·have h5:=HW4.out.step (Xo3 H5);exact h5.turn ((Xo1 H5).off h5) ((Q0v.of_below (Ba) _).trans0 (Q0v.of_grown (Xo5 H5) fun r hr _=>by
       cases a1 with
       |none=>simp at hr
       |some y=>simp only[UE,Up] at hr;exact ⟨y,rfl,hr⟩)) (fun _ h=>h)
   case rest=>
    obtain ⟨a2,N2,c2,all2,j,mj,rfl,rfl,Xu,o9,JQ,hej,t6,Xo,WV,D0,hX9,hlt9,hw9⟩:=hcut;obtain ⟨g,rfl,awj,lwj,cwj,bej,oej,lej,cej,q0,q1,q2,q3,hwj,XG,hbj1,hbj2⟩:=o9.ent j mj JQ;have hjN:j<N2:=(by rw[<-o9.len];exact (Ui.1 JQ).1);have hjN':(j:Int)<(N2:Int):=(by omega);have hj0:(0:Int)<=(j:Int):=(by omega);obtain ⟨M1,U6,B7,I3⟩:=Xo mj (Ug JQ);have I9:=Q2h (Xo8 HR).2 (Xo6 HR);have hlj:=hwj.len;have hi6:i<600:=(by have:=(Xo4 H);omega);have V6:=Qij mj.neg mj.exp awj lwj cwj mj.ws m.neg m.exp aw lw cw m.ws wc.drew hwj.drew hw9.drew (by omega) (by omega) (by omega) (by omega) (by omega) (by omega) (69632+64*(i:Int)) (-65536) 65536 (by omega) (by omega) (by omega) (by omega) (by omega) (by omega);obtain ⟨g0,g1,g2⟩:=hX9.cc;have HM:=Xh11 Xu o9 JQ hej t6 Xo WV D0 hX9 hlt9 V6;clear Xu o9 JQ hej t6 Xo WV D0 hX9 hlt9 hw9 V6 hwj XG M1 U6 B7 I3 I9 hlj y0 y1 y2 y3 hlk;have q0d:wc.drew.cell? ⟨g,j*4,none⟩=some (.bool mj.neg):=q0;have q1d:wc.drew.cell? ⟨g,j*4+1,none⟩=some (.int .i64 mj.exp):=q1;have q2d:wc.drew.cell? ⟨g,j*4+2,none⟩=some (.slice awj lwj cwj):=q2;have g0d:wc.drew.cell? ⟨wr.heap.size,0,none⟩=some (.bool m.neg):=g0;have g1d:wc.drew.cell? ⟨wr.heap.size,1,none⟩=some (.int .i64 m.exp):=g1;have g2d:wc.drew.cell? ⟨wr.heap.size,2,none⟩=some (.slice aw lw cw):=g2;have hjt:((j:Int)).toNat=j:=by omega
    go_upto_region 13 with fail
    go_region_law (
     refine Q3g (by rfl) 188 #[.agg #[.bool mj.neg,.int .i64 mj.exp,.slice awj lwj cwj],.agg #[.bool m.neg,.int .i64 m.exp,.slice aw lw cw]] (by simp[go_sem]) ?_;refine (Xe10 HM).mono ?_;rintro r w8 ⟨b,e,al,ll,cl,L,rfl,hw8,Ji,hl8,hh8,ht8,Zh⟩;refine ⟨_,rfl,?_⟩;have G7:Bw wc w8:=⟨Zh.os,Zh.tape,Zh.output,Zh.size,Zh.block⟩;have JN:g<wc.heap.size:=((Xo1 HM).lt rfl).2;have j0:=(G7.cell (p:=⟨g,j*4,none⟩) JN).trans q0;have j1:=(G7.cell (p:=⟨g,j*4+1,none⟩) JN).trans q1;have j2:=(G7.cell (p:=⟨g,j*4+2,none⟩) JN).trans q2;have B6:=Qp3 (Xo1 HM);have i0':=(G7.frozen (p:=⟨g,j*4,none⟩) JN).trans (B6 _);have i1':=(G7.frozen (p:=⟨g,j*4+1,none⟩) JN).trans (B6 _);have i2':=(G7.frozen (p:=⟨g,j*4+2,none⟩) JN).trans (B6 _);have n1:(w8.setCell ⟨g,j*4,none⟩ (.bool b)).cell? ⟨g,j*4+1,none⟩=some (.int .i64 mj.exp):=(Ud _ _ _ _ (by simp)).trans j1;have n2:((w8.setCell ⟨g,j*4,none⟩ (.bool b)).setCell ⟨g,j*4+1,none⟩ (.int .i64 e)).cell? ⟨g,j*4+2,none⟩=some (.slice awj lwj cwj):=(Ud _ _ _ _ (by simp)).trans ((Ud _ _ _ _ (by simp)).trans j2);have H8:=Xh6 hw8 Ji hl8 hh8 ht8 G7;clear hw8 Ji hl8 hh8 ht8 G7 Zh JN B6)
    all_goals go_wp2_with fail
    all_goals exact ⟨Qsg E0 (Xo0 HM) (Xo1 HM) (Xo2 HM) (Xo4 HM) (Xo5 HM) (Xo6 HM) (Xo7 HM) (Xo0 H8) (Xo1 H8) (Xo2 H8) (Xo3 H8) (Xo4 H8) (Xe5 H8),by simp only[intOf];omega⟩
  ·have F0:¬((i:Int)<(ms.length:Int)):=(by omega);have U5:i=ms.length:=(by omega);rw[U5,Ti] at Q6;have P1:N<=600:=(by have:=(Xo4 H);omega);have C2:N<=9223372036854775807:=(by omega);have HL:=Xh5 R0 Q6 ZG M0 U5;clear R0 Q6 ZG U9 M0 U5
   go_wp2_with fail
   rename World=>wl
   go_loopw [12,72] (fun s12 s72 wx=>Qz2 wl all k s12 s72 wx) (fun _ iv _=>N-(intOf iv).toNat)
   case atStart=>
    exact ⟨0,none,0,0,[],rfl,rfl,Ut _,Ut _,Q2m.nil_ _ _,rfl,(fun m hm=>by cases hm),(fun m hm=>by cases hm),Uc _ _⟩
   case round=>
    obtain ⟨q,a3,M,c3,outs,rfl,rfl,hq,hM,B4,JI,Vf,Q8,hbo⟩:=hrel
    by_cases Vo:q<N
    ·have hql':(q:Int)<(N:Int):=(by omega);obtain ⟨m,hm⟩:∃m,all[q]?=some m:=⟨_,Ub (by rw[(Xo0 HL).len];exact Vo)⟩;have WJ:=(Xo0 HL).step hbo;obtain ⟨g,rfl,aw,lw,cw,be,oe,le,ce,q0,q1,q2,q3,hw,he,A0,D0⟩:=WJ.ent q m hm;obtain ⟨M1,U6,B7,I3⟩:=(Xo2 HL) m (Ug hm);have Xd:=hw.len;have hi6:i<=600:=(by have:=(Xo4 H);omega);have hX:=Q32.new wr (.bool m.neg) (.int .i64 m.exp) (.slice aw lw cw) (.slice (some ⟨be,oe,none⟩) le ce) 98;have K1:Bw wr (wr.alloc (.cells #[.bool m.neg,.int .i64 m.exp,.slice aw lw cw,.slice (some ⟨be,oe,none⟩) le ce] 98)):=Ba;have K5:=Q0p wr (.cells #[.bool m.neg,.int .i64 m.exp,.slice aw lw cw,.slice (some ⟨be,oe,none⟩) le ce] 98);have R8:=((Xo5 H).step ((Xo3 HL))).step hbo;have m5:=Q53 m.neg aw lw cw m.ws m.exp _ (hw.step K1) (R8.step K1) (by omega) (by omega) (by omega);have HQ:=Xh13 B4 JI Vf Q8 hbo hm hw he M1 hX K1 K5 m5;obtain ⟨x0,x1,x2⟩:=hX.cc;have x3:=hX.c3;have I8:=(Xo0 HL).ent q m hm;clear B4 JI Vf Q8 hbo hm hw he M1 hX K1 K5 m5 WJ R8 U6 B7 I3
     go_upto_if 90 with (go_at_call_of 165 (Value.bool m.neg);refine (Xe12 HQ).mono ?_;rintro r w5 ⟨n',e',a',l',c',L,er,rfl,m7,S6,C1⟩;have H5:=Xh3 (Q94 m7) S6 C1;clear m7 S6 C1)
     have hm:=(Xo5 HQ);have hgl:g<wl.heap.size:=((Xo0 HL).lt rfl).2;have F5:be<wl.heap.size:=by
      obtain ⟨g2,e2,aw2,lw2,cw2,be2,oe2,le2,ce2,_,_,_,p3,_,_,_,p7⟩:=I8;injection e2 with e2;injection e2 with e2;subst e2;have h1:=((Xo4 HQ).cell (p:=⟨g,q*4+3,none⟩) hgl).trans p3;rw[q3] at h1;injection h1 with h1;injection h1 with h1;injection h1 with h1;injection h1 with h1;omega
     have o5:((all.take (q+1)).map Q00.term).filter (fun p=>decide (p.1≠0))=((all.take q).map Q00.term).filter (fun p=>decide (p.1≠0))++(if m.term.1=0 then [] else [m.term]):=by
      rw[Tr,hm,UZ,List.filter_append]
      congr 1
      show [m.term].filter _=_
      rw[List.filter_cons]
      by_cases h0:m.term.1=0
      ·rw[Uu h0,Us (by simpa using h0)];rfl
      ·rw[Us h0,Uu (by simpa using h0)];rfl
     have QP:∀m'∈all.take (q+1),m'∈all.take q∨m'=m:=fun m' h'=>by
      rw[Tr,hm] at h';simpa using h'
     have YW:=Below.next0 (Xo10 HQ) (Xe2 H5);have hb5l:=Below.next0 (Xo4 HQ) YW;have M3:=Xh5 F5 o5 QP YW hb5l;have t7:=(Xo9 HQ).step (Xe2 H5) (Xo11 HQ);have hN5:=Q03.new w5 (.bool n') (.int .i64 e') (.slice a' l' c') 26;have Yn:Bw w5 (w5.alloc (.cells #[.bool n',.int .i64 e',.slice a' l' c'] 26)):=Ba;have Zq:=t7.step Yn (Ue (Xo11 HQ) (Xe2 H5).size);have u3:=Zq.c3;obtain ⟨t0,t1,t2⟩:=hN5.cc;have Yl:=Ua Yn;clear t7 hN5 Zq Yn I8 F5 o5 QP YW hb5l hm x0 x1 x2 x3;rcases (Xo0 H5) with ⟨Z8,rfl,S2,J0⟩|⟨hnf,rfl,_⟩
     ·have XY:=(Xo1 H5).len;have Wa:∀m'∈all.take (q+1),Q64 m'.term.1:=fun m' h'=>((Xo2 M3) m' h').elim (fun h1=>(Xo3 HQ) m' h1) (fun h1=>by subst h1;exact Z8);have HV:=Xh4 Z8 S2 J0 Wa;clear Z8 S2 J0 Wa
      by_cases Qw:L=[]
      ·have J3:¬((0:Int)<(l':Int)):=(by rw[<-XY,Qw];simp);have h0:m.term.1=0:=by
        show Q1r m.neg m.exp m.ws=0
        have e0:Q1r n' e' L=Q1r m.neg m.exp m.ws:=(Xo2 HV);rw[<-e0,Qw];exact (Q65 (by rw[<-Qw];exact (Xo1 HV)) (fun x hx=>by cases hx)).2 rfl
       have H0:=Ua h0;clear h0 Qw XY
       go_wp2_with fail
       refine ⟨⟨q+1,a3,M,c3,outs,rfl,congrArg (Value.int .i64) (by omega),by have:=(Xo0 HL).len;omega,by omega,(Xo0 HQ).step (Below.next0 (Xo3 M3) Yl.out),?_,(Xo2 HQ),(Xe3 HV),Below.next0 (Xe4 M3) Yl.out⟩,by simp only[intOf];omega⟩;rw[(Xo1 M3),Uu H0.out,Xaf];exact (Xo1 HQ)
      ·have J3:(0:Int)<(l':Int):=by
        rw[<-XY];have:=Xbc.2 Qw;omega
       obtain ⟨O2,E2,I2,X1⟩:=HI.out;have ZH:=(Xo0 HQ).step (Below.next0 (Xo3 M3) Yl.out);obtain ⟨xs6,ZB⟩:=ZH.row;have hMM:M<=600:=(by omega);have Wm:wl.heap.size<=((w5.alloc (.cells #[.bool n',.int .i64 e',.slice a' l' c'] 26)).alloc (.cells #[.bool n',.int .i64 e',.slice a' l' c',.slice (some ⟨be,oe,none⟩) le ce] 98)).heap.size:=by
        have:=(Xe4 M3).size;rw[Uk,Uk];omega
       obtain ⟨g6,c6,w6,D7,O3,C3,z5⟩:=Q25 (P:=Tryz.prog) NoU ((w5.alloc (.cells #[.bool n',.int .i64 e',.slice a' l' c'] 26)).alloc (.cells #[.bool n',.int .i64 e',.slice a' l' c',.slice (some ⟨be,oe,none⟩) le ce] 98)) 42 42 98 i0 _ 4 64 Tryz.underlying42 O2 E2 I2 X1 rfl Qbw wl.heap.size Wm a3 M c3 xs6 (ZB.step (Ba)) (w5.alloc (.cells #[.bool n',.int .i64 e',.slice a' l' c'] 26)).heap.size 1 1 [.bool n',.int .i64 e',.slice a' l' c',.slice (some ⟨be,oe,none⟩) le ce] rfl (TR (cs:= #[.bool n',.int .i64 e',.slice a' l' c',.slice (some ⟨be,oe,none⟩) le ce]) (Uo _ _)) (by simp[Value.oneCell']) (by intro u hu;simp at hu;rcases hu with rfl|rfl|rfl|rfl <;> exact fun _=>by simp[nv]) (by decide) (by omega) (by decide) (by decide);rw[Uk w5] at D7;have H6:=Xh6 ZH ZB O3 C3 z5 Qw;clear ZH ZB O3 C3 z5 Wm Qw XY O2 E2 I2 X1
       go_wp2_with (at_builtin;refine Q0j rfl (.tmp 96) (.tmp 101) 42 42 rfl _ _ rfl rfl _ _ D7 ?_)
       have Wx:=(Xo1 H5).toWordsIn.step Yl.out;have he6:=(Xo7 HQ).step (Below.next0 (Xo3 M3) Yl.out);have JG:=(Xo0 H6).push (Xo1 H6) (o:=.cells #[.bool n',.int .i64 e',.slice a' l' c',.slice (some ⟨be,oe,none⟩) le ce] 98) (Xo3 H6) (Xo4 H6) (m:=⟨n',e',L,m.es⟩) (Xo2 H6) rfl Wx he6 (by rw[Uk];have:=(Xo0 M3);have:=(Xe4 M3).size;omega) (fun x hx e=>by have:=((Xo0 H6).lt hx).1;have:=(Xo0 M3);omega);have hbw6:Bw wl w6:=by
        have h1:=(Below.next0 (Xe4 M3) Yl.out);have h2:=h1.alloc h1.size (.cells #[.bool n',.int .i64 e',.slice a' l' c',.slice (some ⟨be,oe,none⟩) le ce] 98);exact h2.trans ⟨(Xo3 H6).os,(Xo3 H6).tape,(Xo3 H6).output,(Xo3 H6).size,fun z hz=>(Xo3 H6).block z (Ue hz h2.size) (fun e=>by
         cases a3 with
         |none=>simp at e
         |some y=>simp only[UE,Up] at e;have:=((Xo0 H6).lt rfl).1;omega)⟩
       have hv:Q1r n' e' L=m.term.1:=(Xo2 HV);have P0:m.term.1≠0:=fun e0=>(Xe5 H6) ((Q65 (Xo1 HV) Wx.low).1 (hv.trans e0));refine ⟨⟨q+1,_,M+1,c6,_,rfl,congrArg (Value.int .i64) (by omega),by have:=(Xo0 HL).len;omega,by omega,JG,?_,fun m' o8=>?_,(Xe3 HV),hbw6⟩,by simp only[intOf];omega⟩
       ·rw[(Xo1 M3),Us P0,UZ,(Xo1 HQ)]
        congr 1
        show [(Q1r n' e' L,m.es)]=[m.term]
        rw[hv];rfl
       ·rcases Tp.1 o8 with h1|h1
        ·exact (Xo2 HQ) m' h1
        ·rw[UC] at h1;subst h1;exact ⟨⟨(Xo8 HQ),(Xo1 HV)⟩,(Xe5 H6)⟩
     ·have A4:X=.error 2:=by
       rw[<-(Xo6 H)];have QA:m.term∈Qaw (ms.map Q00.term):=(by rw[<-(Xo1 HL)];exact Tx.2 ⟨m,Ug (Xo5 HQ),rfl⟩);unfold Q3q;rw[Uu];rw[Xbl];refine ⟨m.term,(Qg2 _ _).1 QA,?_⟩;have:Qa4 m.term.1=false:=(Qma _).2 hnf;rw[this];rfl
      have HX:=Ua A4;clear A4 hnf
      go_wp2_with fail
      exact ⟨rfl,.tuple #[.slice none 0 0,.int .i64 2],by simp[results,go_sem],Q1i.err HX.out (Below.next0 (Below.next0 (Xo3 HL) (Xe4 M3)) Yl.out)⟩
    ·have hql':¬((q:Int)<(N:Int)):=(by omega);have hqa:all.take q=all:=Uz (by have:=(Xo0 HL).len;omega);rw[hqa] at JI Q8;have HO:=Xh5 B4 JI Vf Q8 hbo;have hM6:M<=600:=(by have:=(Xo0 HL).len;omega);clear B4 JI Vf Q8 hbo hqa
     by_cases WC:24<M
     ·have h24':(24:Int)<(M:Int):=(by omega);have Zq:X=.error 6:=by
       rw[<-(Xo6 H)];exact Qsh (Xo1 HL) (Xo1 HO) (Xo3 HO) (by rw[(Xo0 HO).len];exact WC)
      have HX:=Ua Zq;clear Zq
      go_wp2_with fail
      exact ⟨rfl,.tuple #[.slice none 0 0,.int .i64 6],by simp[results,go_sem],Q1i.err HX.out (Below.next0 (Xo3 HL) (Xe4 HO))⟩
     ·have h24':¬(24:Int)<(M:Int):=(by omega);have Vz:=Qvk (Xo0 HO) (by omega) ((Xo0 HO).exps (Xo2 HO));have HS:=Ua Vz;clear Vz
      go_wp2_with (go_at_call_of 189 (Value.slice a3 M c3);refine HS.out.mono ?_;rintro r w9 ⟨rfl,outs',hms9,KG,hs9,j4⟩;have H9:=Xh4 hms9 KG hs9 j4;clear hms9 KG hs9 j4)
      have z8:outs'.Pairwise (fun p q=>¬Q3e p.es q.es<0):=(Xo2 H9).imp fun {p q} h=>by omega
      obtain ⟨F1,Km⟩:=Qxu (Xo2 H) (Xo3 H) (Qn5 _) (Qj7 (Xo1 HL) (by have:=(Xo3 HO);exact this)) (Xo1 HL) (Xo1 HO) (by rw[(Xo0 HO).len];omega) (Xo1 H9) z8 (Xo2 HO);refine ⟨rfl,.tuple #[.slice a3 M c3,.int .i64 0],by simp[results,go_sem],?_,?_⟩
      ·exact Below.next0 (Xo3 HL) ((Xe4 HO).trans (Xe3 H9))
      ·rw[<-(Xo6 H),F1];exact ⟨a3,M,c3,outs',rfl,(Xo0 H9),rfl,Km⟩
def Qbx [LT ZK] (w:World):List Q00->LV->Prop
 |[],xs=>xs=[]
 |m::r,xs=>∃aw lw cw ae le ce ys,xs=.bool m.neg:: .int .i64 m.exp:: .slice aw lw cw:: .slice ae le ce::ys/\(WordsIn w aw lw cw m.ws/\Q0q w ae le ce m.es/\-9223372036854775808<=m.exp/\m.exp<=9223372036854775807)/\Qbx w r ys
theorem Qbx.len [LT ZK] {w:World}:∀{ms:List Q00} {xs:LV},Qbx w ms xs->xs.length=ms.length*4
 |[],_,h=>by cases h;rfl
 |m::r,_,⟨_,_,_,_,_,_,ys,rfl,_,h⟩=>by
  have:=Qbx.len h;simp only[Um];omega
theorem Qbx.one [LT ZK] {w:World}:∀{ms:List Q00} {xs:LV},Qbx w ms xs->∀u∈xs,u.oneCell'=true
 |[],_,h,u,hu=>by cases h;cases hu
 |m::r,_,⟨_,_,_,_,_,_,ys,rfl,_,h⟩,u,hu=>by
  simp only[UG] at hu;rcases hu with rfl|rfl|rfl|rfl|hu
  ·rfl
  ·rfl
  ·rfl
  ·rfl
  ·exact Qbx.one h u hu
theorem Qbx.append [LT ZK] {w:World} {ms':List Q00} {ys:LV} (h':Qbx w ms' ys):∀{ms:List Q00} {xs:LV},Qbx w ms xs->Qbx w (ms++ms') (xs++ys)
 |[],_,h=>by cases h;exact h'
 |m::r,_,⟨aw,lw,cw,ae,le,ce,zs,rfl,hg,h⟩=>⟨aw,lw,cw,ae,le,ce,zs++ys,rfl,hg,Qbx.append h' h⟩
theorem Qbx.of [LT ZK] {w:World} {b:Nat}:∀{ms:List Q00} {o:Nat},(∀j m,ms[j]?=some m->Q41 w b (o+j*4) m)->∃xs,Qbx w ms xs/\∀j u,xs[j]?=some u->w.cell? ⟨b,o+j,none⟩=some u
 |[],o,_=>⟨[],rfl,fun j u h=>by simp at h⟩
 |m::r,o,h=>by
  obtain ⟨ys,X8,M9⟩:=Qbx.of (ms:=r) (o:=o+4) (fun j m' hm=>by have:=h (j+1) m' hm;rwa[show o+(j+1)*4=o+4+j*4 by omega] at this);obtain ⟨aw,lw,cw,ae,le,ce,h0,h1,h2,h3,hg⟩:=h 0 m rfl;rw[Xaq,TD] at h0 h1 h2 h3;refine ⟨_,⟨aw,lw,cw,ae,le,ce,ys,rfl,hg,X8⟩,fun j u hj=>?_⟩
  match j,hj with
  |0,hj=>simp at hj;rw[<-hj];exact h0
  |1,hj=>simp at hj;rw[<-hj];exact h1
  |2,hj=>simp at hj;rw[<-hj];exact h2
  |3,hj=>simp at hj;rw[<-hj];exact h3
  |j+4,hj=>
   have:=M9 j u (by simpa using hj);rwa[show o+4+j=o+(j+4) by omega] at this
theorem Qbx.lie [LT ZK] {w w':World} {g:Nat} (hb:Bw w w'):∀{ms:List Q00} {xs:LV} {o:Nat},Qbx w ms xs->(∀j u,xs[j]?=some u->w'.cell? ⟨g,o+j,none⟩=some u)->∀j m,ms[j]?=some m->Q41 w' g (o+j*4) m
 |[],_,_,_,_,j,m,hm=>by simp at hm
 |m0::r,_,o,⟨aw,lw,cw,ae,le,ce,ys,rfl,⟨g1,g2,g3⟩,h⟩,hc,j,m,hm=>by
  match j,hm with
  |0,hm=>
   simp at hm;subst hm;refine ⟨aw,lw,cw,ae,le,ce,?_,?_,?_,?_,g1.step hb,g2.step hb,g3⟩
   ·exact hc 0 _ rfl
   ·have:=hc 1 _ rfl;simpa using this
   ·have:=hc 2 _ rfl;simpa using this
   ·have:=hc 3 _ rfl;simpa using this
  |j+1,hm=>
   have:=Qbx.lie hb (o:=o+4) h (fun i u hi=>by
    have:=hc (i+4) u (by simpa using hi);rwa[show o+(i+4)=o+4+i by omega] at this) j m (by simpa using hm)
   rwa[show o+4+j*4=o+(j+1)*4 by omega] at this
theorem Qdh {P:Program} (w:World) (t ty e:TypeId) (i:TypeInfo) (ht:P.underlying t=some (.slice e)) (hi:P.info? e=some i) (a b:OA) (n c d:Nat) (hn:n<=c):
 (Builtin.append_ #[t,t] ty #[.slice a n c,.slice b 0 d]).run P w=.ok (.slice a n c) w:=by
 have hf:(Builtin.firstCells i.size 0 (.slice b 0 d)).run P w=.ok #[] w:=by
  cases b with
  |none=>exact run_firstCells_none w i.size 0 0 d
  |some x=>exact run_firstCells_some (P:=P) w i.size 0 x 0 d [] (by simp) (fun j u h=>by simp at h)
 cases a with
 |none=>simp[Builtin.append_,run_underlying ht,sizeOf,typeInfo,hi,Builtin.lenOf,hf,hn]
 |some x=>simp[Builtin.append_,run_underlying ht,sizeOf,typeInfo,hi,Builtin.lenOf,hf,hn,storeCells]
theorem Qb5 [LT ZK] (ty:TypeId) (w0 w:World) (hb:Bw w0 w) (a:OA) (n c:Nat) (xs:LV) (hr:Row w w0.heap.size 98 4 a n c xs) (b:OA) (m d:Nat) (ms:List Q00) (h:Q0e w0 b m d ms) (ZT:n+m<=1000):
 ∃a' c' w' ys,(Builtin.append_ #[42,42] ty #[.slice a n c,.slice b m d]).run Tryz.prog w=.ok (.slice a' (n+m) c') w'/\Row w' w0.heap.size 98 4 a' (n+m) c' (xs++ys)/\Qbx w0 ms ys/\Bw w0 w':=by
 obtain ⟨i0,O2,E2,I2,X1⟩:=Q1c Q7u;obtain ⟨h1,h2,h3,rfl|⟨bb,o,rfl,E0,h4⟩⟩:=h
 ·subst h1;refine ⟨a,c,w,[],Qdh w _ ty _ i0 Tryz.underlying42 O2 a b n c d hr.cap.1,by simpa using hr,rfl,hb⟩
 ·obtain ⟨ys,X8,M9⟩:=Qbx.of h4;have K9:∀j u,ys[j]?=some u->w.cell? ((⟨bb,o,none⟩:Addr).add j)=some u:=fun j u hj=>by
   rw[Addr.add_lit];exact (hb.cell (p:=⟨bb,o+j,none⟩) E0).trans (M9 j u hj)
  obtain ⟨a',c',w',Q1,A1,Z7,N0,_⟩:=Q4a w0 w ty 42 98 i0 _ 4 64 Tryz.underlying42 O2 E2 I2 X1 rfl (by decide) w0.heap.size hb hb.size a n c xs hr ⟨bb,o,none⟩ m d ys (by rw[X8.len,h1]) K9 X8.one (n+m) rfl (by omega) (by omega);exact ⟨a',c',w',ys,Q1,A1,X8,N0⟩
theorem Qvm (N:Nat) (w:World) (hN:N<=1000):
 Calls Tryz.prog 284 #[.slice none 0 0,.int .i64 (N:Int)] w fun r w'=>∃a c,r=.returned (.slice a 0 c)/\Row w' w.heap.size 98 4 a 0 c []/\Bw w w':=by
 obtain ⟨i0,O2,E2,I2,X1⟩:=Q1c Q7u;have h0:¬((N:Int)<0):=by omega
 by_cases h1:N=0
 ·subst h1
  go_enter Tryz.func284,Tryz.ntmps284
  go_wp2_with fail
  go_ret;exact ⟨none,0,rfl,Row.nil_ _ _ _ _,Uc _ _⟩
 ·have h2:(0:Int)<(N:Int):=by omega
  have hC1:=grownCap_ge w (0+N) 0 98;have hC2:=grownCap_le_maxLen w (0+N) 0 98 (by unfold maxLen;omega);have Q1:=fun ty=>Lib.run_append_grow_zeros (P:=Tryz.prog) w 42 3 ty 98 i0 _ .i64 .i64 Tryz.underlying42 Tryz.underlying3 O2 E2 none 0 0 [] (run_firstCells_none _ _ _ _ _) N (by omega) (by rw[I2];decide) (by omega) (by omega) (by rw[X1];omega) (by rw[X1];exact growslice_fits (by omega) (by omega));obtain ⟨C,hC⟩:∃C,grownCap w (0+N) 0 98=C:=⟨_,rfl⟩;rw[hC] at Q1 hC1 hC2;obtain ⟨W,hW⟩:∃W,w.drew.alloc (.cells (([]:LV).toArray++Builtin.zeroCells (Value.agg #[.bool false,.int .i64 0,.slice none 0 0,.slice none 0 0]).cells N++Builtin.zeroCells (Value.agg #[.bool false,.int .i64 0,.slice none 0 0,.slice none 0 0]).cells (C-(0+N))) 98)=W:=⟨_,rfl⟩;rw[hW] at Q1;rw[UV] at Q1 hC1;have A1:Row W w.heap.size 98 4 (some ⟨w.heap.size,0,none⟩) 0 C []:=by
   refine ⟨by simp,.inr ⟨w.heap.size,C,_,rfl,Uf _,by rw[<-hW];exact Uo w.drew _,Ut _,hC2,?_,by simp⟩⟩;simp[size_zeroCells,Value.cells];omega
  have N0:Bw w W:=by
   rw[<-hW];exact ⟨rfl,rfl,rfl,by rw[Uk];exact Nat.le_succ _,fun k hk=>heap_alloc_old w.drew _ hk⟩
  have H:=Xh2 A1 N0;clear hW A1 N0 hC hC2
  go_enter Tryz.func284,Tryz.ntmps284
  go_wp2_with (at_builtin;refine Q0j rfl (.tmp 20) (.tmp 21) 42 3 rfl _ _ rfl rfl _ _ (Q1 _) ?_)
  go_ret;exact ⟨_,_,rfl,(Xo0 H),(Xe1 H)⟩
def Qz3 (n m:Nat) (s3 s11:Value):Prop:=(s11=.int .i64 0/\s3=.int .i64 0)∨(s11=.int .i64 1/\s3=.int .i64 (n:Int))∨(s11=.int .i64 2/\s3=.int .i64 ((n+m:Nat):Int))
def Qsi [LT ZK] (w wr:World) (n m:Nat) (ms ms2:List Q00) (s6 s27:Value):Prop:=Bw w wr/\∃a k c mk xs,s6=.slice a k c/\Row wr w.heap.size 98 4 a k c xs/\Qbx w mk xs/\
 ((s27=.int .i64 0/\k=0/\mk=[])∨(s27=.int .i64 1/\k=n/\mk=ms)∨(s27=.int .i64 2/\k=n+m/\mk=ms++ms2))
theorem Qsi.done [LT ZK] {w wr:World} {k c:Nat} {a:OA} (hb:Bw w wr) {xs:LV} (hr:Row wr w.heap.size 98 4 a k c xs) {mk:List Q00} (he:Qbx w mk xs) (hk:mk.length=k):Q0e wr a k c mk:=by
 have J4:=hr.cap;refine ⟨hk,J4.1,by have:=J4.2;simpa[maxLen] using this,?_⟩;rcases hr.form with ⟨_,h0,_⟩|⟨g,cur,rfl,_,E0,_⟩
 ·exact .inl (Ty (by omega))
 ·refine .inr ⟨g,0,rfl,E0,he.lie hb fun j u hj=>?_⟩;obtain ⟨g',e,_,_,h2⟩:=hr.at_ hj;injection e with e;injection e with e;subst e;rw[UV];exact h2
theorem Qp5 [LT ZK] (sb:Nat) (a:OA) (n c:Nat) (ms:List Q00) (b:OA) (m d:Nat) (ms2:List Q00) (w:World) (h1:Q0e w a n c ms) (h2:Q0e w b m d ms2) (hl:sb<w.heap.size) (c0:w.cell? ⟨sb,0,none⟩=some (.slice a n c)) (c1:w.cell? ⟨sb,1,none⟩=some (.slice b m d)) (hn:n<=300) (hm:m<=300):
 Calls Tryz.prog 245 #[.slice (some ⟨sb,0,none⟩) 2 2] w fun r w'=>∃a' c',r=.returned (.slice a' (n+m) c')/\Q0e w' a' (n+m) c' (ms++ms2)/\Bw w w':=by
 have hg:=Qvm (n+m) w (by omega);have H:=Xh6 h1 h2 hl c0 c1 hg;have G9:¬((n:Int)<0):=by omega
 have C8:¬(((n+m:Nat):Int)<0):=by omega
 have ZW:(n:Int)+(m:Int)=((n+m:Nat):Int):=by omega
 have HM:=Xh2 C8 ZW;clear h1 h2 hl hg C8 ZW
 go_enter Tryz.func245,Tryz.ntmps245
 go_wp2_with fail
 go_loopw [3,11] (fun s3 s11 wr=>Qz3 n m s3 s11/\wr=w) (fun _ iv _=>2-(intOf iv).toNat)
 case atStart=>exact ⟨.inl ⟨rfl,rfl⟩,rfl⟩
 case round=>
  obtain ⟨hrel,rfl⟩:=hrel
  rename World=>w
  rcases hrel with ⟨rfl,rfl⟩|⟨rfl,rfl⟩|⟨rfl,rfl⟩
  ·go_wp2_with fail
   exact ⟨⟨.inr (.inl ⟨rfl,rfl⟩),.intro⟩,by simp only[intOf];decide⟩
  ·have C8:¬(((n+m:Nat):Int)<0):=(by omega);have hw:wrap64 ((n:Int)+(m:Int))=((n+m:Nat):Int):=by unfold wrap64;omega
   go_wp2_with fail
   exact ⟨⟨.inr (.inr ⟨rfl,rfl⟩),.intro⟩,by simp only[intOf];decide⟩
  ·go_wp2_with (refine (Xe5 H).mono ?_;rintro r w1 ⟨a6,c6,rfl,ZB,F4⟩;have H6:=Xh2 ZB F4;clear ZB F4)
   go_loopw [6,27] (fun s6 s27 wr=>Qsi w wr n m ms ms2 s6 s27) (fun _ iv _=>2-(intOf iv).toNat)
   case atStart=>exact ⟨(Xe1 H6),a6,0,c6,[],[],rfl,(Xo0 H6),rfl,.inl ⟨rfl,rfl,rfl⟩⟩
   case round=>
    obtain ⟨M0,a7,k,c7,mk,xs,rfl,hr7,he7,⟨rfl,rfl,rfl⟩|⟨rfl,rfl,rfl⟩|⟨rfl,rfl,rfl⟩⟩:=hrel
    ·obtain ⟨a8,c8,w8,ys,Q1,hr8,he8,G7⟩:=Qb5 42 w wr M0 a7 0 c7 xs hr7 a n c ms (Xo0 H) (by omega);rw[UV] at Q1 hr8;have H8:=Xh3 hr8 (Qbx.append he8 he7) G7;have k0:=(M0.cell (p:=⟨sb,0,none⟩) (Xo2 H)).trans c0;have k1:=(M0.cell (p:=⟨sb,1,none⟩) (Xo2 H)).trans c1;clear hr8 he8 G7 M0 hr7 he7
     go_wp2_with (at_builtin;refine Q0j rfl (.tmp 31) (.tmp 32) 42 42 rfl _ _ rfl rfl _ _ Q1 ?_)
     exact ⟨⟨(Xe2 H8),a8,n,c8,_,_,rfl,(Xo0 H8),(Xo1 H8),.inr (.inl ⟨rfl,rfl,rfl⟩)⟩,by simp only[intOf];decide⟩
    ·obtain ⟨a8,c8,w8,ys,Q1,hr8,he8,G7⟩:=Qb5 42 w wr M0 a7 k c7 xs hr7 b m d ms2 (Xo1 H) (by omega);have H8:=Xh3 hr8 (Qbx.append he8 he7) G7;have k0:=(M0.cell (p:=⟨sb,0,none⟩) (Xo2 H)).trans c0;have k1:=(M0.cell (p:=⟨sb,1,none⟩) (Xo2 H)).trans c1;clear hr8 he8 G7 M0 hr7 he7
     go_wp2_with (at_builtin;refine Q0j rfl (.tmp 31) (.tmp 32) 42 42 rfl _ _ rfl rfl _ _ Q1 ?_)
     exact ⟨⟨(Xe2 H8),a8,k+m,c8,_,_,rfl,(Xo0 H8),(Xo1 H8),.inr (.inr ⟨rfl,rfl,rfl⟩)⟩,by simp only[intOf];decide⟩
    ·have H8:=Xh3 M0 hr7 he7;clear hr7 he7 M0
     go_wp2_with fail
     go_ret;exact ⟨_,_,rfl,Qsi.done (Xo0 H8) (Xo1 H8) (Xe2 H8) (by rw[Uh,(Xo0 H).1,(Xo1 H).1]),(Xo0 H8)⟩
theorem Q1i.lower [LT ZK] {w0 w w':World} {n:Nat} {X:Except Int (List Q0l)} {r:Ending} (h:Q1i w n X r w') (hb:Bw w0 w):Q1i w0 n X r w':=⟨Below.next0 hb h.1,h.2⟩
theorem Q1i.form [LT ZK] {w w':World} {n:Nat} {X:Except Int (List Q0l)} {r:Ending} (h:Q1i w n X r w'):∃a l c er,r=.returned (.tuple #[.slice a l c,.int .i64 er]):=by
 obtain ⟨_,h⟩:=h;cases X with
 |error e=>obtain ⟨a,l,c,rfl⟩:=h;exact ⟨a,l,c,e,rfl⟩
 |ok P=>obtain ⟨a,l,c,ms,rfl,_⟩:=h;exact ⟨a,l,c,0,rfl⟩
theorem Qlj [LT ZK] (a:OA) (n c:Nat) (ms:List Q00) (b:OA) (m d:Nat) (ms2:List Q00) (k:Nat) (w:World) (h1:Q0e w a n c ms) (h2:Q0e w b m d ms2) (r1:Q1p k ms) (r2:Q1p k ms2) (hT:Q1s w):
 Calls Tryz.prog 191 #[.slice a n c,.slice b m d,.int .i64 (k:Int)] w (Q1i w k (Qui (ms.map Q00.term) (ms2.map Q00.term))):=by
 have J2:=r1.1;have R5:=r1.2.1;have hn:n<=24:=by have:=r1.2.2.1;rw[h1.1] at this;exact this
 have hm:m<=24:=by have:=r2.2.2.1;rw[h2.1] at this;exact this
 have p1:=fun W (hb:Bw w W)=>Q35 a n c ms k W (h1.step hb) (by omega);have p2:=fun W (hb:Bw w W)=>Q35 b m d ms2 k W (h2.step hb) (by omega);have hX:Qui (ms.map Q00.term) (ms2.map Q00.term)=Q3q ((ms++ms2).map Q00.term):=by rw[UZ];rfl
 rw[hX];clear hX;obtain ⟨X,hX⟩:∃X,Q3q ((ms++ms2).map Q00.term)=X:=⟨_,rfl⟩;rw[hX];have JC:∀m∈ms++ms2,Qle k m:=fun m hm=>by
  rcases Tp.1 hm with h|h
  ·exact (r1.2.2.2.1 m h).1
  ·exact (r2.2.2.2.1 m h).1
 have m5:=fun (a':OA) (c':Nat) (W:World) (hb:Bw w W) (h:Q0e W a' (n+m) c' (ms++ms2))=>by
  have:=Q5u a' (n+m) c' (ms++ms2) k W h JC J2 R5 (by omega) (hT.step hb);rw[hX] at this;exact this
 have H:=Xh7 h1 h2 r1 r2 p1 p2 m5;clear h1 h2 r1 r2 p1 p2 m5 hX JC hT
 go_enter Tryz.func191,Tryz.ntmps191
 go_upto_region 3 with (first|(go_at_call_of 51 (Value.slice a n c);refine ((Xo4 H) _ (Uc _ _)).mono ?_;rintro r w1 ⟨⟨x,rfl,hx⟩,A0⟩;(have VB:x=true:=hx.2 (Xo2 H));clear hx;subst VB;have H1:=Ua A0;clear A0)|(go_at_call_of 51 (Value.slice b m d);refine ((Xo5 H) _ H1.out).mono ?_;rintro r w2 ⟨⟨x,rfl,hx⟩,D0⟩;(have VB:x=true:=hx.2 (Xo3 H));clear hx;subst VB;have H2:=Ua D0;clear D0))
 have D0:=Below.next0 H1.out H2.out;have I0:=D0.alloc D0.size (.cells #[.slice a n c,.slice b m d] 42);have J8:=Uo w2 (.cells #[.slice a n c,.slice b m d] 42);have Zx:=Qp5 w2.heap.size a n c ms b m d ms2 (w2.alloc (.cells #[.slice a n c,.slice b m d] 42)) ((Xo0 H).step I0) ((Xo1 H).step I0) (Q0p _ _) (by rw[Uw _ _ _ _ _ _ J8];rfl) (by rw[Uw _ _ _ _ _ _ J8];rfl) (by omega) (by omega);have H3:=Xh2 I0 Zx;clear D0 I0 J8 Zx
 go_wp2_with (first|(go_at_call_of 245 (Value.slice (some ⟨w2.heap.size,0,none⟩) 2 2);refine (Xe1 H3).mono ?_;rintro r w4 ⟨a4,c4,rfl,hm4,N1⟩;have H4:=Xh2 hm4 (Below.next0 (Xo0 H3) N1);clear hm4 N1)|(go_at_call_of 133 (Value.slice a4 (n+m) c4);refine ((Xe6 H) a4 c4 _ (Xe1 H4) (Xo0 H4)).mono ?_;rintro r w5 F1;obtain ⟨a5,l5,c5,er,rfl⟩:=F1.form;have H5:=Ua (F1.lower (Xe1 H4));clear F1))
 exact ⟨rfl,.tuple #[.slice a5 l5 c5,.int .i64 er],by simp[results,go_sem],H5.out⟩
end Go.Proofs.YtidojbkhlenahaaGreatDoor
