/- Part 11. No condition. -/
import Derived.Lib.ParseIntBCases
import Derived.Lib.AtoiErrMem
import Derived.Test.YtidojbkhlenahaaGreatDoorPkProblemRights10
set_option maxRecDepth 100000
set_option maxHeartbeats 16000000
namespace Go.Proofs.YtidojbkhlenahaaGreatDoor
open Go.RowKit WordsM
def Q88 (Pr:Value->Prop) (w:World) (B:Nat) (e:TypeId) (k:Nat) (a:OA) (n c:Nat) (xs:LV):Prop:=
 Row w B e k a n c xs/\∀g cur T fr,a=some ⟨g,0,none⟩->w.heap[g]?=some (.cells cur T fr)->∀u∈cur.toList,Pr u
theorem Q88.nil_ (Pr:Value->Prop) (w:World) (B:Nat) (e:TypeId) (k:Nat):Q88 Pr w B e k none 0 0 []:=⟨Row.nil_ _ _ _ _,fun _ _ _ _ h=>nomatch h⟩
theorem Q88.keep {Pr:Value->Prop} {w w':World} {B:Nat} {e:TypeId} {k:Nat} {a:OA} {n c:Nat} {xs:LV} (h:Q88 Pr w B e k a n c xs) (hk:∀x,a=some x->w'.heap[x.block]?=w.heap[x.block]?):Q88 Pr w' B e k a n c xs:=by
 refine ⟨⟨h.1.1,?_⟩,fun g cur T fr ha hh=>h.2 g cur T fr ha ((hk _ ha).symm.trans hh)⟩;rcases h.1.2 with h2|⟨g,cap,cur,hv,hB,hh,hr⟩
 ·exact .inl h2
 ·refine .inr ⟨g,cap,cur,hv,hB,?_,hr⟩;injection hv with e1;exact (hk _ e1).trans hh
theorem Q88.step {Pr:Value->Prop} {w w':World} {B:Nat} {e:TypeId} {k:Nat} {a:OA} {n c:Nat} {xs:LV} (h:Q88 Pr w B e k a n c xs) (hb:Bw w w'):Q88 Pr w' B e k a n c xs:=
 h.keep fun _ hx=>hb.block _ (row2_lt h.1 hx)
where
 row2_lt {w:World} {B:Nat} {e:TypeId} {k:Nat} {a:OA} {n c:Nat} {xs:LV} (h:Row w B e k a n c xs) {x:Addr} (hx:a=some x):x.block<w.heap.size:=by
  rcases h.form with ⟨h0,_⟩|⟨g,cur,h0,h1,h2,_⟩
  ·rw[h0] at hx;cases hx
  ·rw[h0] at hx;injection hx with hx;subst hx;exact h2
theorem Qgt {z:Array Value} {n:Nat} {u:Value} (h:u∈(Builtin.zeroCells z n).toList):u∈z.toList:=by
 unfold Builtin.zeroCells at h;simp only[Array.toList_map,Array.toList_range,Tx,List.mem_range] at h;obtain ⟨i,hi,rfl⟩:=h;have hz:0<z.size:=Nat.pos_of_ne_zero fun e=>by rw[e,Nat.mul_zero] at hi;omega
 have E0:=TP i hz;rw[getElem!_pos z (i%z.size) E0];exact Array.mem_toList_iff.2 (Array.getElem_mem E0)
theorem Qix (w:World) (g:Nat) (cs:Array Value):w.grownBy (w.setRow g cs) (some g):=⟨rfl,rfl,rfl,by rw[size_setRow];exact Uf _,fun k _ hn=>setRow_other w g k cs (fun e=>hn (by rw[e]))⟩
theorem Qah {P:Program} (Pr:Value->Prop) (w:World) (t ty e:TypeId) (i:TypeInfo) (z:Value) (k bytes:Nat) (ht:P.underlying t=some (.slice e)) (hi:P.info? e=some i) (hz:i.zero=some z) (j7:i.size=k) (Jz:i.bytes=bytes) (Zv:z.cells.size=k)
 (hzp:∀u∈z.cells.toList,Pr u) (B:Nat) (hB:B<=w.heap.size) (a:OA) (n c:Nat) (xs:LV) (h:Q88 Pr w B e k a n c xs)
 (x0:Addr) (m d:Nat) (news:LV) (hl:news.length=m*k) (V7:∀j u,news[j]?=some u->w.cell? (x0.add j)=some u) (h1:∀u∈news,u.oneCell'=true) (hp:∀u∈news,Pr u)
 (hm:0<m) (hn:n+m<=1000000) (hb:bytes<=1000) (hk:0<k):
 ∃g c' w',(Builtin.append_ #[t,t] ty #[.slice a n c,.slice (some x0) m d]).run P w=.ok (.slice (some ⟨g,0,none⟩) (n+m) c') w'/\Q88 Pr w' B e k (some ⟨g,0,none⟩) (n+m) c' (xs++news)/\w.grownBy w' (a.map (·.block))/\(a=some ⟨g,0,none⟩∨g=w.heap.size):=by
 subst j7;have WE:(n+m)*bytes<=1000000*1000:=Nat.mul_le_mul hn hb;have Vm:m*bytes<=1000000*1000:=Nat.mul_le_mul (by omega) hb;have K5:=h.1.len;have E6:(xs++news).length=(n+m)*i.size:=by rw[Uh,K5,hl,Tl]
 have fresh:∀(cap:Nat),n+m<=cap->cap<=maxLen->Q88 Pr (w.drew.alloc (.cells (xs.toArray++news.toArray++Builtin.zeroCells z.cells (cap-(n+m))) e)) B e i.size (some ⟨w.heap.size,0,none⟩) (n+m) cap (xs++news):=by
  intro cap C2 A2;have hh:(w.drew.alloc (.cells (xs.toArray++news.toArray++Builtin.zeroCells z.cells (cap-(n+m))) e)).heap[w.heap.size]?=some (.cells (xs.toArray++news.toArray++Builtin.zeroCells z.cells (cap-(n+m))) e (0,0)):=Uo w.drew _;refine ⟨⟨E6,.inr ⟨w.heap.size,cap,_,rfl,hB,hh,C2,A2,?_,?_⟩⟩,fun g cur T fr hg E8 u hu=>?_⟩
  ·simp only[Array.size_append,Xbi,size_zeroCells,Zv];rw[<-Uh,E6,<-Tl]
   congr 1;omega
  ·simp only[Array.toList_append];rw[List.take_append_of_le_length (by rw[E6];exact Uf _),Uz (by rw[E6];exact Uf _)]
  ·injection hg with hg;injection hg with hg;subst hg;rw[hh] at E8;injection E8 with E8;injection E8 with E8 _ _;subst E8;simp only[Array.toList_append,Tp] at hu;rcases hu with (hu|hu)|hu
   ·rcases h.1.form with ⟨_,_,_,h0⟩|⟨g2,cur2,e2,_,_,hh2,_,_,_,o5⟩
    ·rw[h0] at hu;cases hu
    ·refine h.2 g2 cur2 _ _ e2 hh2 u ?_;rw[<-o5] at hu;exact Ts hu
   ·exact hp u hu
   ·exact hzp u (Qgt hu)
 rcases h.1.form with ⟨rfl,rfl,rfl,rfl⟩|⟨g,cur,rfl,hgB,JN,hh,YA,R2,W6,o5⟩
 ·have Q1:=run_append_nil (P:=P) w t ty e i z ht hi hz x0 m d news hl V7 hm (by omega) (by rw[Jz];omega);have hf:=fresh (grownCap w m 0 e) (by rw[UV];exact grownCap_ge w m 0 e) (grownCap_le_maxLen w m 0 e (by unfold maxLen;omega));refine ⟨w.heap.size,grownCap w m 0 e,_,by rw[UV];exact Q1,?_,?_,.inr rfl⟩
  ·simpa using hf
  ·exact ⟨rfl,rfl,rfl,by rw[Uk];exact Nat.le_succ _,fun k hk _=>(Below.alloc (Uc w.drew.heap.size w.drew) (Uf _) _).block k hk⟩
 ·by_cases hroom:n+m<=c
  ·have Q8:n*i.size+news.length<=cur.size:=(by rw[W6,hl,<-Tl];exact UY _ hroom);have Q1:=run_append_room (P:=P) w t ty e i ht hi g n c cur hh x0 m d news hl V7 h1 hroom Q8;refine ⟨g,c,_,Q1,?_,Qix w g _,.inl rfl⟩;have hh':=setRow_heap w g cur (cur.toList.take (n*i.size)++news++cur.toList.drop (n*i.size+news.length)).toArray e (0,0) hh;refine ⟨⟨E6,.inr ⟨g,c,_,rfl,hgB,hh',hroom,R2,?_,?_⟩⟩,fun g2 cur2 T fr M6 E8 u hu=>?_⟩
   ·simp only[Xbi,Uh,UW,Tu,Xbk];omega
   ·rw[List.toList_toArray,o5,List.take_append_of_le_length (by rw[E6];exact Uf _),Uz (by rw[E6];exact Uf _)]
   ·injection M6 with M6;injection M6 with M6;subst M6;rw[hh'] at E8;injection E8 with E8;injection E8 with E8 _ _;subst E8;rw[List.toList_toArray] at hu;rcases Tp.1 hu with hu|hu
    ·rcases Tp.1 hu with hu|hu
     ·exact h.2 g cur _ _ rfl hh u (Ts hu)
     ·exact hp u hu
    ·exact h.2 g cur _ _ rfl hh u (List.mem_of_mem_drop hu)
  ·have holds:∀j v,xs[j]?=some v->w.cell? ((⟨g,0,none⟩:Addr).add j)=some v:=fun j v hv=>by
    have V6:(⟨g,0,none⟩:Addr).add j=⟨g,j,none⟩:=(by unfold Addr.add;split <;> simp_all);rw[V6];obtain ⟨g',e',_,_,hc⟩:=h.1.at_ hv;injection e' with e';injection e' with e';subst e';exact hc
   have J4:=growslice_fits (need:=n+m) (old:=c) (bytes:=i.bytes) (by omega) (by rw[Jz];omega);have Q1:=run_append_grow (P:=P) w t ty e i z ht hi hz ⟨g,0,none⟩ n c xs K5 holds x0 m d news hl V7 (by omega) (by omega) J4;have hf:=fresh (grownCap w (n+m) c e) (grownCap_ge w (n+m) c e) (grownCap_le_maxLen w (n+m) c e (by unfold maxLen;omega));refine ⟨w.heap.size,grownCap w (n+m) c e,_,Q1,hf,?_,.inr rfl⟩;exact ⟨rfl,rfl,rfl,by rw[Uk];exact Nat.le_succ _,fun k hk _=>(Below.alloc (Uc w.drew.heap.size w.drew) (Uf _) _).block k hk⟩
theorem Q25 {P:Program} (Pr:Value->Prop) (w:World) (t ty e:TypeId) (i:TypeInfo) (z:Value) (k bytes:Nat) (ht:P.underlying t=some (.slice e)) (hi:P.info? e=some i) (hz:i.zero=some z) (j7:i.size=k) (Jz:i.bytes=bytes) (Zv:z.cells.size=k)
 (hzp:∀u∈z.cells.toList,Pr u) (B:Nat) (hB:B<=w.heap.size) (a:OA) (n c:Nat) (xs:LV) (h:Q88 Pr w B e k a n c xs)
 (b m d:Nat) (news:LV) (hl:news.length=m*k) (V7:∀j u,news[j]?=some u->w.cell? ((⟨b,0,none⟩:Addr).add j)=some u) (h1:∀u∈news,u.oneCell'=true) (hp:∀u∈news,Pr u)
 (hm:0<m) (hn:n+m<=1000000) (hb:bytes<=1000) (hk:0<k):
 ∃g c' w',(Builtin.append_ #[t,t] ty #[.slice a n c,.slice (some ⟨b,0,none⟩) m d]).run P w=.ok (.slice (some ⟨g,0,none⟩) (n+m) c') w'/\Q88 Pr w' B e k (some ⟨g,0,none⟩) (n+m) c' (xs++news)/\w.grownBy w' (a.map (·.block))/\(a=some ⟨g,0,none⟩∨g=w.heap.size):=
 Qah Pr w t ty e i z k bytes ht hi hz j7 Jz Zv hzp B hB a n c xs h ⟨b,0,none⟩ m d news hl V7 h1 hp hm hn hb hk
def NoU (v:Value):Prop:=∀x:Nat,v≠nv .u64 x
theorem Q88.off {w:World} {B:Nat} {e:TypeId} {k:Nat} {a:OA} {n c:Nat} {xs:LV} (h:Q88 NoU w B e k a n c xs) {aw:OA} {l cw:Nat} {L:LN} (hw:WordsIn w aw l cw L):Qxn (fun b=>∃x,a=some x/\x.block=b) aw L:=by
 rcases hw.rd with h0|⟨b,o,rfl,hb,hc⟩
 ·exact .inl h0
 cases L with
 |nil=>exact .inl rfl
 |cons y r=>
  refine .inr fun x hx ⟨z,hz,e⟩=>?_;injection hx with hx;subst hx;have h1:=hc 0 y rfl;rcases h.1.form with ⟨h0,_⟩|⟨g,cur,h0,_,_,hh,_⟩
  ·rw[h0] at hz;cases hz
  ·have hz':=hz;rw[h0] at hz';injection hz' with hz';subst hz';have e:g=b:=e;subst e;rw[Uw _ _ _ _ _ _ hh] at h1;exact h.2 g cur _ _ h0 hh _ (Array.mem_toList_iff.2 (Array.mem_of_getElem? h1)) y rfl
theorem Q88.set {Pr:Value->Prop} {w:World} {B:Nat} {e:TypeId} {k g n c:Nat} {xs:LV} (h:Q88 Pr w B e k (some ⟨g,0,none⟩) n c xs) (i:Nat) {u:Value} (hu:Pr u):Q88 Pr (w.setCell ⟨g,i,none⟩ u) B e k (some ⟨g,0,none⟩) n c (xs.set i u):=by
 refine ⟨h.1.set0 i u,fun g2 cur T fr hg hh v hv=>?_⟩;injection hg with hg;injection hg with hg;subst hg;rcases h.1.form with ⟨h0,_⟩|⟨g',cur',e1,_,_,hh',_⟩
 ·cases h0
 ·injection e1 with e1;injection e1 with e1;subst e1;rw[heap_setCell_same _ _ _ _ _ _ hh'] at hh;injection hh with hh;injection hh with hh _ _;subst hh;rw[Xay] at hv;rcases Xa3 hv with hv|rfl
  ·exact h.2 _ _ _ _ rfl hh' v hv
  ·exact hu
def Qv9 [LT ZK] (w:World) (g o:Nat) (m:Q00):Prop:=∃aw lw cw be oe le ce,w.cell? ⟨g,o,none⟩=some (.bool m.neg)/\w.cell? ⟨g,o+1,none⟩=some (.int .i64 m.exp)/\w.cell? ⟨g,o+2,none⟩=some (.slice aw lw cw)/\w.cell? ⟨g,o+3,none⟩=some (.slice (some ⟨be,oe,none⟩) le ce)/\
 WordsIn w aw lw cw m.ws/\Q0q w (some ⟨be,oe,none⟩) le ce m.es/\be≠g/\be<w.heap.size
theorem Qv9.via [LT ZK] {w w':World} {g g' o:Nat} {m:Q00} (h:Qv9 w g o m) (hs:w.heap.size<=w'.heap.size) (hc:∀j,j<4->w'.cell? ⟨g',o+j,none⟩=w.cell? ⟨g,o+j,none⟩) (hw:∀aw lw cw,WordsIn w aw lw cw m.ws->WordsIn w' aw lw cw m.ws) (hi:∀be,be≠g->be<w.heap.size->be≠g'/\w'.heap[be]?=w.heap[be]?):Qv9 w' g' o m:=by
 obtain ⟨aw,lw,cw,be,oe,le,ce,h0,h1,h2,h3,h4,h5,h6,h7⟩:=h;obtain ⟨i1,i2⟩:=hi be h6 h7;refine ⟨aw,lw,cw,be,oe,le,ce,(hc 0 (by decide)).trans h0,(hc 1 (by decide)).trans h1,(hc 2 (by decide)).trans h2,(hc 3 (by decide)).trans h3,hw _ _ _ h4,⟨h5.len,h5.cap,h5.most,h5.rng,?_⟩,i1,Ue h7 hs⟩;rcases h5.rd with h8|⟨b,oo,e,hb,x4⟩
 ·exact .inl h8
 ·injection e with e;injection e with e1 e2;subst e1;subst e2;exact .inr ⟨be,oe,rfl,Ue hb hs,fun j x hx=>(UR (a:=⟨be,oe+j,none⟩) i2).trans (x4 j x hx)⟩
theorem WordsIn.onBlock {w w':World} {aw:OA} {l c:Nat} {L:LN} (h:WordsIn w aw l c L) (hs:w.heap.size<=w'.heap.size) (mb:Nat) (Vm:∀o,w.cell? ⟨mb,o,none⟩=none) (hk:∀k,k<w.heap.size->k≠mb->w'.heap[k]?=w.heap[k]?):WordsIn w' aw l c L:=by
 refine ⟨h.len,h.cap,h.most,h.low,?_⟩;rcases h.rd with h0|⟨b,o,rfl,hb,hc⟩
 ·exact .inl h0
 ·refine .inr ⟨b,o,rfl,Ue hb hs,fun j x hx=>?_⟩;have h1:=hc j x hx;have P0:b≠mb:=fun e=>by subst e;rw[Vm] at h1;cases h1
  exact (UR (a:=⟨b,o+j,none⟩) (hk b hb P0)).trans h1
structure Q2m [LT ZK] (B:Nat) (w:World) (a:OA) (n c:Nat) (all:List Q00):Prop where
 row:∃xs,Q88 NoU w B 98 4 a n c xs
 ent:∀j m,all[j]?=some m->∃g,a=some ⟨g,0,none⟩/\Qv9 w g (j*4) m
 len:all.length=n
theorem Q2m.nil_ [LT ZK] (B:Nat) (w:World):Q2m B w none 0 0 []:=⟨⟨[],Q88.nil_ _ _ _ _ _⟩,fun j m h=>by simp at h,rfl⟩
theorem Q2m.lt [LT ZK] {B:Nat} {w:World} {a:OA} {n c:Nat} {all:List Q00} (h:Q2m B w a n c all) {x:Addr} (hx:a=some x):B<=x.block/\x.block<w.heap.size:=by
 obtain ⟨xs,hr⟩:=h.row;exact row2_blk hr.1 hx
where
 row2_blk {w:World} {B k:Nat} {T:TypeId} {a:OA} {n c:Nat} {vs:LV} (h:Row w B T k a n c vs) {x:Addr} (hx:a=some x):B<=x.block/\x.block<w.heap.size:=by
  rcases h.form with ⟨h0,_⟩|⟨g,cur,h0,h1,h2,_⟩
  ·rw[h0] at hx;cases hx
  ·rw[h0] at hx;injection hx with hx;subst hx;exact ⟨h1,h2⟩
theorem Q2m.onBlock [LT ZK] {B:Nat} {w w':World} {a:OA} {n c:Nat} {all:List Q00} (h:Q2m B w a n c all) (hs:w.heap.size<=w'.heap.size) (mb:Nat) (Vm:∀o,w.cell? ⟨mb,o,none⟩=none) (ham:∀x,a=some x->x.block≠mb) (hk:∀k,k<w.heap.size->k≠mb->w'.heap[k]?=w.heap[k]?):Q2m B w' a n c all:=by
 obtain ⟨xs,hr⟩:=h.row;refine ⟨⟨xs,hr.keep fun x hx=>hk _ (h.lt hx).2 (ham x hx)⟩,fun j m hm=>?_,h.len⟩;obtain ⟨g,ha,hE⟩:=h.ent j m hm;have hg:=h.lt ha;have G1:∀o,w'.cell? ⟨g,o,none⟩=w.cell? ⟨g,o,none⟩:=fun o=>UR (a:=⟨g,o,none⟩) (hk g hg.2 (ham _ ha));refine ⟨g,ha,?_⟩;obtain ⟨aw,lw,cw,be,oe,le,ce,h0,h1,h2,h3,h4,h5,h6,h7⟩:=hE;have hi5:Q0q w' (some ⟨be,oe,none⟩) le ce m.es:=by
  refine ⟨h5.len,h5.cap,h5.most,h5.rng,?_⟩;rcases h5.rd with h8|⟨b,oo,e,hb,x4⟩
  ·exact .inl h8
  ·refine .inr ⟨b,oo,e,Ue hb hs,fun i x hx=>?_⟩;have h9:=x4 i x hx;have P0:b≠mb:=fun e=>by subst e;rw[Vm] at h9;cases h9
   exact (UR (a:=⟨b,oo+i,none⟩) (hk b hb P0)).trans h9
 exact ⟨aw,lw,cw,be,oe,le,ce,(G1 _).trans h0,(G1 _).trans h1,(G1 _).trans h2,(G1 _).trans h3,h4.onBlock hs mb Vm hk,hi5,h6,Ue h7 hs⟩
theorem Q2m.step [LT ZK] {B:Nat} {w w':World} {a:OA} {n c:Nat} {all:List Q00} (h:Q2m B w a n c all) (hb:Bw w w'):Q2m B w' a n c all:=by
 refine h.onBlock hb.size w.heap.size (fun o=>?_) (fun x hx=>Nat.ne_of_lt (h.lt hx).2) fun k hk _=>hb.block k hk;unfold World.cell?;simp
theorem Q2m.push [LT ZK] {B:Nat} {w w2:World} {a:OA} {n c c2 g:Nat} {all:List Q00} (h:Q2m B w a n c all) {xs xs2:LV} (Q4:Q88 NoU w B 98 4 a n c xs) {o:Obj} (Z7:(w.alloc o).grownBy w2 (a.map (·.block))) (R1:a=some ⟨g,0,none⟩∨g=(w.alloc o).heap.size) {m:Q00} {aw:OA} {lw cw be oe le ce:Nat}
 (hr:Q88 NoU w2 B 98 4 (some ⟨g,0,none⟩) (n+1) c2 xs2) (hxs:xs2=xs++[.bool m.neg,.int .i64 m.exp,.slice aw lw cw,.slice (some ⟨be,oe,none⟩) le ce])
 (hw:WordsIn w aw lw cw m.ws) (hi:Q0q w (some ⟨be,oe,none⟩) le ce m.es) (I8:be<w.heap.size) (P3:∀x,a=some x->x.block≠be):Q2m B w2 (some ⟨g,0,none⟩) (n+1) c2 (all++[m]):=by
 have Y1:w.heap.size<=w2.heap.size:=Ul (Xa9 (Q0p w o)) Z7.size;have ZA:Q0v (fun b=>∃x,a=some x/\x.block=b) w w2:=(Q0v.of_below (Ba) _).trans0 (Q0v.of_grown Z7 fun r hr _=>by
  cases a with
  |none=>simp at hr
  |some y=>simp only[UE,Up] at hr;exact ⟨y,rfl,hr⟩)
 have JK:∀(aw:OA) (lw cw:Nat) (L:LN),WordsIn w aw lw cw L->WordsIn w2 aw lw cw L:=fun aw lw cw L hw=>hw.turn (Q4.off hw) ZA (fun _ h=>h);have O5:∀k,k<w.heap.size->(∀x,a=some x->x.block≠k)->w2.heap[k]?=w.heap[k]?:=fun k hk hn=>ZA.block k hk (fun ⟨x,hx,e⟩=>hn x hx e);have J8:∀k,k<w.heap.size->(∀x,a=some x->x.block≠k)->k≠g:=fun k hk hn e=>by
  subst e;rcases R1 with h1|h1
  ·exact hn _ h1 rfl
  ·rw[Uk] at h1;omega
 have Q2:xs.length=n*4:=Q4.1.len;have Q7:∀i v,xs2[i]?=some v->w2.cell? ⟨g,i,none⟩=some v:=fun i v hv=>hr.1.cell0 hv;refine ⟨⟨xs2,hr⟩,fun j m' o8=>⟨g,rfl,?_⟩,by rw[Uh,h.len];rfl⟩
 by_cases hj:j<n
 ·rw[TS (by rw[h.len];exact hj)] at o8;obtain ⟨g0,ha,hE⟩:=h.ent j m' o8;refine hE.via Y1 (fun i hi4=>?_) (fun _ _ _ h=>JK _ _ _ _ h) fun be A0 D0=>?_
  ·have E0:j*4+i<xs.length:=(by omega);have e1:=Q7 (j*4+i) xs[j*4+i] (by rw[hxs,TS E0,Ub E0]);subst ha;rw[e1,Q4.1.cell0 (Ub E0)]
  ·have Yj:∀x,a=some x->x.block≠be:=fun x hx e=>by rw[ha] at hx;injection hx with hx;subst hx;exact A0 e.symm
   exact ⟨J8 be D0 Yj,O5 be D0 Yj⟩
 ·have XX:j=n:=by
   have:=(Ui.1 o8).1;rw[Uh,h.len] at this;simp at this;omega
  subst XX;rw[TI (by rw[h.len];exact Uf _),h.len,Nat.sub_self] at o8;simp only[US,Up] at o8;subst o8;have hc:∀i v,[Value.bool m.neg,.int .i64 m.exp,.slice aw lw cw,.slice (some ⟨be,oe,none⟩) le ce][i]?=some v->w2.cell? ⟨g,j*4+i,none⟩=some v:=fun i v hv=>Q7 _ _ (by rw[hxs,TI (by omega),Q2,Nat.add_sub_cancel_left];exact hv);have D0:=O5 be I8 P3;refine ⟨aw,lw,cw,be,oe,le,ce,hc 0 _ rfl,hc 1 _ rfl,hc 2 _ rfl,hc 3 _ rfl,JK _ _ _ _ hw,⟨hi.len,hi.cap,hi.most,hi.rng,?_⟩,J8 be I8 P3,Ue I8 Y1⟩;rcases hi.rd with h8|⟨b,oo,e,hb,x4⟩
  ·exact .inl h8
  ·injection e with e;injection e with e1 e2;subst e1;subst e2;exact .inr ⟨be,oe,rfl,Ue hb Y1,fun i x hx=>(UR (a:=⟨be,oe+i,none⟩) D0).trans (x4 i x hx)⟩
theorem Q2m.put [LT ZK] {B:Nat} {w:World} {g n c:Nat} {all:List Q00} (h:Q2m B w (some ⟨g,0,none⟩) n c all) {i:Nat} {m:Q00} (hm:all[i]?=some m) {b:Bool} {e:Int} {aw:OA} {lw cw:Nat} {L:LN} (hw:WordsIn w aw lw cw L):
 Q2m B (((w.setCell ⟨g,i*4,none⟩ (.bool b)).setCell ⟨g,i*4+1,none⟩ (.int .i64 e)).setCell ⟨g,i*4+2,none⟩ (.slice aw lw cw)) (some ⟨g,0,none⟩) n c (all.set i ⟨b,e,L,m.es⟩):=by
 obtain ⟨xs,hr⟩:=h.row;obtain ⟨g',Qo,hE⟩:=h.ent i m hm;injection Qo with Qo;injection Qo with Qo;subst Qo;obtain ⟨aw0,lw0,cw0,be,oe,le,ce,h0,h1,h2,h3,h4,h5,h6,h7⟩:=hE;have ne01:(⟨g,i*4,none⟩:Addr)≠⟨g,i*4+1,none⟩:=by simp
 have d1:(w.setCell ⟨g,i*4,none⟩ (.bool b)).cell? ⟨g,i*4+1,none⟩=some (.int .i64 m.exp):=(Ud _ _ _ _ (by simp)).trans h1;have d2:((w.setCell ⟨g,i*4,none⟩ (.bool b)).setCell ⟨g,i*4+1,none⟩ (.int .i64 e)).cell? ⟨g,i*4+2,none⟩=some (.slice aw0 lw0 cw0):=(Ud _ _ _ _ (by simp)).trans ((Ud _ _ _ _ (by simp)).trans h2);have JK:∀(aw':OA) (lw' cw':Nat) (L':LN),WordsIn w aw' lw' cw' L'->WordsIn (((w.setCell ⟨g,i*4,none⟩ (.bool b)).setCell ⟨g,i*4+1,none⟩ (.int .i64 e)).setCell ⟨g,i*4+2,none⟩ (.slice aw lw cw)) aw' lw' cw' L':=fun _ _ _ _ hw'=>
  ((hw'.set1 h0 (fun _=>by simp[nv]) _).set1 d1 (fun _=>by simp[nv]) _).set1 d2 (fun _=>by simp[nv]) _
 have O5:∀k,k≠g->(((w.setCell ⟨g,i*4,none⟩ (.bool b)).setCell ⟨g,i*4+1,none⟩ (.int .i64 e)).setCell ⟨g,i*4+2,none⟩ (.slice aw lw cw)).heap[k]?=w.heap[k]?:=fun k hk=>(Td _ _ _ _ hk).trans ((Td _ _ _ _ hk).trans (Td _ _ _ _ hk));have hfar:∀o,o≠i*4->o≠i*4+1->o≠i*4+2->(((w.setCell ⟨g,i*4,none⟩ (.bool b)).setCell ⟨g,i*4+1,none⟩ (.int .i64 e)).setCell ⟨g,i*4+2,none⟩ (.slice aw lw cw)).cell? ⟨g,o,none⟩=w.cell? ⟨g,o,none⟩:=fun o a0 a1 a2=>(Ud _ _ _ _ (by simp)).trans ((Ud _ _ _ _ (by simp)).trans (Ud _ _ _ _ (by simp)));refine ⟨⟨_,((hr.set (i*4) (u:=.bool b) (fun _=>by simp[nv])).set (i*4+1) (u:=.int .i64 e) (fun _=>by simp[nv])).set (i*4+2) (u:=.slice aw lw cw) (fun _=>by simp[nv])⟩,fun j m' o8=>⟨g,rfl,?_⟩,by rw[Tm,h.len]⟩
 by_cases hj:j=i
 ·subst hj;rw[TN (Ui.1 hm).1] at o8;injection o8 with o8;subst o8;refine ⟨aw,lw,cw,be,oe,le,ce,?_,?_,?_,?_,JK _ _ _ _ hw,⟨h5.len,h5.cap,h5.most,h5.rng,?_⟩,h6,by simp only[Tj];exact h7⟩
  ·exact (Ud _ _ _ _ (by simp)).trans ((Ud _ _ _ _ (by simp)).trans (UD _ _ _ (by rw[h0];rfl)))
  ·exact (Ud _ _ _ _ (by simp)).trans (UD _ _ _ (by rw[d1];rfl))
  ·exact UD _ _ _ (by rw[d2];rfl)
  ·exact (hfar _ (by omega) (by omega) (by omega)).trans h3
  ·rcases h5.rd with h8|⟨bb,oo,ee,hb,x4⟩
   ·exact .inl h8
   ·injection ee with ee;injection ee with e1 e2;subst e1;subst e2;exact .inr ⟨be,oe,rfl,by simp only[Tj];exact hb,fun k x hx=>(UR (a:=⟨be,oe+k,none⟩) (O5 be h6)).trans (x4 k x hx)⟩
 ·rw[Th (fun e=>hj e.symm)] at o8;obtain ⟨g',Qo,hE'⟩:=h.ent j m' o8;injection Qo with Qo;injection Qo with Qo;subst Qo;exact hE'.via (by simp only[Tj];exact Uf _) (fun k hk=>hfar _ (by omega) (by omega) (by omega)) (fun _ _ _ h=>JK _ _ _ _ h) fun be' A0 _=>⟨A0,O5 be' A0⟩
def Qle (k:Nat) (m:Q00):Prop:=Q10 k m.es/\Q0a m.neg m.exp m.ws
structure Qxo (w:World) (b:Nat) (k:Nat):Prop where
 cell:w.cell? ⟨b,0,none⟩=some (.int .i64 (k:Int))
 lt:b<w.heap.size
theorem Qxo.step {w w':World} {b k:Nat} (h:Qxo w b k) (hb:Bw w w'):Qxo w' b k:=⟨(hb.cell (p:=⟨b,0,none⟩) h.lt).trans h.cell,Ue h.lt hb.size⟩
theorem Qlf [LT ZK] (n:Bool) (e:Int) (a:OA) (l c:Nat) (L:LN) (b:OA) (m d:Nat) (E:List Int) (kb k:Nat) (w:World) (h:WordsIn w a l c L) (hE:Q0q w b m d E) (hk:k<=9223372036854775807) (he: -9223372036854775808<=e) (D5:e<=9223372036854775807) (hK:Qxo w kb k):
 Calls Tryz.prog 185 #[.agg #[.bool n,.int .i64 e,.slice a l c,.slice b m d],.pointer (some ⟨kb,0,none⟩)] w fun r w'=>r=.returned (.bool (!decide (Q10 k E/\Q0a n e L)))/\Bw w w':=by
 have hX:=Q32.new w (.bool n) (.int .i64 e) (.slice a l c) (.slice b m d) 98;have hb:Bw w (w.alloc (.cells #[.bool n,.int .i64 e,.slice a l c,.slice b m d] 98)):=Ba;have m7:=Qmt n e a l c L b m d E k _ (h.step hb) (hE.step hb) hk he D5;have hkc:=(hK.step hb).cell;obtain ⟨dv,XZ⟩:∃dv,decide (Q10 k E/\Q0a n e L)=dv:=⟨_,rfl⟩;rw[XZ] at m7⊢;generalize hW:w.alloc (.cells #[.bool n,.int .i64 e,.slice a l c,.slice b m d] 98)=W at hX hb m7 hkc;obtain ⟨x0,x1,x2,x3,_,_,_,_⟩:=id hX;have H:=Xh2 m7 hb;clear m7 hb hX h hE
 go_enter Tryz.func185,Tryz.ntmps185
 go_wp2_with (go_at_call_of 92 a;refine (Xo0 H).mono ?_;rintro r w1 ⟨rfl,A0⟩;have HB:=Ua A0;clear A0)
 go_ret;exact ⟨rfl,Below.next0 (Xe1 H) HB.out⟩
theorem Qlg [LT ZK] (a:OA) (n c:Nat) (ms:List Q00) (kb k:Nat) (w:World) (h:Q0e w a n c ms) (O1:∀m∈ms,Qle k m) (hk:k<=4) (hK:Qxo w kb k):
 Calls Tryz.prog 239 #[.slice a n c,.func (.func 185) #[] #[.pointer (some ⟨kb,0,none⟩)]] w fun r w'=>r=.returned (.int .i64 (-1))/\Bw w w':=by
 have Q2:=h.1;subst Q2;have R2:=Ul h.2.1 h.2.2.1;have HM:=Xh3 h O1 hK;clear h O1 hK
 go_enter Tryz.func239,Tryz.ntmps239
 go_wp2_with fail
 go_loopw [8] (fun iv wr=>∃i:Nat,iv=.int .i64 (i:Int)/\i<=ms.length/\Bw w wr) (fun iv _=>ms.length-(intOf iv).toNat)
 case atStart=>exact ⟨0,rfl,Ut _,Uc _ _⟩
 case round=>
  obtain ⟨i,rfl,hi,hb⟩:=hrel
  by_cases E0:i<ms.length
  ·have F0:(i:Int)<(ms.length:Int):=(by omega);obtain ⟨m,hm⟩:∃m,ms[i]?=some m:=⟨_,Ub E0⟩;obtain ⟨b0,o0,rfl,Z0,R1⟩:∃b o,a=some ⟨b,o,none⟩/\b<wr.heap.size/\∀j m,ms[j]?=some m->Q41 wr b (o+j*4) m:=by
    rcases ((Xo0 HM).step hb).2.2.2 with h0|h0
    ·rw[h0] at E0;simp at E0
    ·exact h0
   obtain ⟨aw,lw,cw,ae,le,ce,k0,k1,k2,k3,hw,he,S4,Q3⟩:=R1 i m hm;have G2:=Qlf m.neg m.exp aw lw cw m.ws ae le ce m.es kb k wr hw he (by omega) S4 Q3 ((Xe2 HM).step hb);have hf:Qle k m:=(Xo1 HM) m (Ug hm);rw[UT (show Q10 k m.es/\Q0a m.neg m.exp m.ws from hf)] at G2;have HC:=Xh2 G2 hb;clear G2 hb R1 hw he hm hf
   go_wp2_with (go_at_call_of 185 aw;refine (Xo0 HC).mono ?_;rintro r w1 ⟨rfl,A0⟩;have HB:=Ua A0;clear A0)
   exact ⟨⟨i+1,by simp,by omega,Below.next0 (Xe1 HC) HB.out⟩,by simp only[intOf];omega⟩
  ·have F0:¬((i:Int)<(ms.length:Int)):=(by omega);have HC:=Ua hb;clear hb
   go_wp2_with fail
   go_ret;exact ⟨rfl,HC.out⟩
theorem Qlh [LT ZK] (a:OA) (n c:Nat) (ms:List Q00) (kb k:Nat) (w:World) (h:Q0e w a n c ms) (O1:∀m∈ms,Qle k m) (hk:k<=4) (hK:Qxo w kb k):
 Calls Tryz.prog 184 #[.slice a n c,.func (.func 185) #[] #[.pointer (some ⟨kb,0,none⟩)]] w fun r w'=>r=.returned (.bool false)/\Bw w w':=by
 have hix:=Qlg a n c ms kb k w h O1 hk hK;have H:=Ua hix;clear hix h O1 hK
 go_enter Tryz.func184,Tryz.ntmps184
 go_wp2_with (go_at_call_of 239 a;refine H.out.mono ?_;rintro r w1 ⟨rfl,A0⟩;have HB:=Ua A0;clear A0)
 go_ret;exact ⟨rfl,HB.out⟩
theorem Qos (s:ByteArray) {p:Nat} (h:p<s.size):Q08 s.data.toList p=s[p]'h:=by
 rw[Q6f (s:=s.data.toList) (j:=p) (by simpa using h)];exact Array.getElem_toList _
theorem Qot (s:ByteArray) {p:Nat} (h:¬p<s.size):Q08 s.data.toList p=0:=by
 unfold Q08;rw[Te,UU (by simpa using h)];rfl
def atOf (w:World) (R:Nat):Nat:=match w.cell? ⟨R,1,none⟩ with|some (.int _ n)=>n.toNat|_=>0
theorem Q0o.atOf {w:World} {R:Nat} {s:ByteArray} {p:Nat} {m d:Int} {bad:Bool} (h:Q0o w R s (p:Int) m d bad):atOf w R=p:=by
 unfold Go.Proofs.YtidojbkhlenahaaGreatDoor.atOf;rw[h.c1];simp
theorem Qai (fp:Nat->Prop) (w:World) (k:Nat):Q0v fp w (w.drewN k):=(Q0v.refl fp w).drewN k
section
variable {w:World} {R:Nat} {s:ByteArray} {p:Nat} {m d:Int} {bad:Bool}
theorem Qbv (h:Q0o w R s (p:Int) m d bad) (_hs:s.size<=281474976710656):
 Calls Tryz.prog 181 #[.pointer (some ⟨R,0,none⟩)] w fun e w'=>e=.returned (.int .u8 ((nxB s.data.toList p bad).toNat:Int))/\∃k,w'=w.drewN k:=by
 obtain ⟨c0,c1,c2,c3,c4,_,_,_,_,_,_,_⟩:=id h;clear h;cases bad with
 |true=>
  go_enter Tryz.func181,Tryz.ntmps181
  go_wp2_with fail
  go_quiet (fail)
  go_wp2_with fail
  go_ret;exact ⟨rfl,_,rfl⟩
 |false=>
  by_cases E0:p<s.size
  ·have F0:¬(s.size:Int)<=(p:Int):=(by omega);have VX:(p:Int)<(s.size:Int):=(by omega);have hv:nxB s.data.toList p false=s[p]'E0:=Qos s E0;rw[hv];clear hv
   go_enter Tryz.func181,Tryz.ntmps181
   go_wp2_with fail
   go_quiet (fail)
   go_wp2_with fail
   go_quiet (fail)
   go_wp2_with fail
   go_ret;exact ⟨rfl,_,by rw[World.drewN_drewN]⟩
  ·have F0:(s.size:Int)<=(p:Int):=(by omega);have hv:nxB s.data.toList p false=0:=Qot s E0;rw[hv];clear hv
   go_enter Tryz.func181,Tryz.ntmps181
   go_wp2_with fail
   go_quiet (fail)
   go_wp2_with fail
   go_ret;exact ⟨rfl,_,rfl⟩
theorem Q5h {p:Int} (h:Q0o w R s p m d bad) (q:Int):
 Calls Tryz.prog 182 #[.pointer (some ⟨R,0,none⟩),.int .i64 q] w fun e w'=>e=.returned (.tuple #[])/\Q0o w' R s (if bad=true then p else q) m d true/\Q0v (OnR R) w w':=by
 obtain ⟨c0,c1,c2,c3,c4,f0,f1,f2,f3,f4,_,_⟩:=id h;have H:=Ua h;clear h;cases bad with
 |true=>
  go_enter Tryz.func182,Tryz.ntmps182
  go_wp2_with fail
  exact ⟨rfl,.tuple #[],by simp[results],rfl,H.out,Q0v.refl _ _⟩
 |false=>
  go_enter Tryz.func182,Tryz.ntmps182
  go_wp2_with fail
  exact ⟨rfl,.tuple #[],by simp[results],rfl,(H.out.setBad true).setAt q,(Q1y _ _ _ _).trans0 (Q1y _ _ _ _)⟩
theorem Qxp {L:LU} {q:Nat} {bad:Bool} (h:nxB L q bad=32):bad=false/\q<L.length/\skS L (q+1) bad=skS L q bad:=by
 obtain ⟨rfl,h1,h2⟩:=Qxm (s:=L) (p:=q) (bad:=bad) (by rw[h];decide);exact ⟨rfl,h1,by unfold skS;simp only[Tf,Xag];exact (Q68 (by rw[<-h2];exact h)).symm⟩
theorem Qxq {L:LU} {q:Nat} {bad:Bool} (h:nxB L q bad≠32):skS L q bad=q:=by
 unfold skS;cases bad
 ·simp only[Tf,Xag];exact Q7i (by simpa[nxB] using h)
 ·rfl
theorem Q3j (h:Q0o w R s (p:Int) m d bad) (hp:p<=s.size) (hs:s.size<=281474976710656):
 Calls Tryz.prog 131 #[.pointer (some ⟨R,0,none⟩)] w fun e w'=>e=.returned (.int .u8 ((nxB s.data.toList (skS s.data.toList p bad) bad).toNat:Int))/\Q0o w' R s ((skS s.data.toList p bad:Nat):Int) m d bad/\Q0v (OnR R) w w':=by
 obtain ⟨L,hL⟩:∃L,s.data.toList=L:=⟨_,rfl⟩;have U8:L.length=s.size:=by rw[<-hL];rfl
 rw[hL];obtain ⟨V,hV⟩:∃V,skS L p bad=V:=⟨_,rfl⟩;rw[hV];have H:=Xh4 h hL U8 hV;clear h hL U8 hV
 go_enter Tryz.func131,Tryz.ntmps131
 go_wp2_with fail
 go_loopw [] (fun wr=>∃q:Nat,q<=s.size/\Q0o wr R s (q:Int) m d bad/\skS L q bad=V/\Q0v (OnR R) w wr) (fun wr=>s.size-atOf wr R)
 case atStart=>exact ⟨p,hp,(Xo0 H),(Xe3 H),Q0v.refl _ _⟩
 case round=>
  obtain ⟨q,hq,hr,hsk,ht⟩:=hrel;obtain ⟨c,hc⟩:∃c,nxB L q bad=c:=⟨_,rfl⟩;have hn:=Qbv hr hs;rw[(Xo1 H),hc] at hn;have o4:=fun k=>Qbv (hr.drewN k) hs;rw[(Xo1 H),hc] at o4
  by_cases h32:c=32
  ·subst h32;obtain ⟨XA,E0,Y0⟩:=Qxp hc;have Qt:IntKind.i64.wrap ((q:Int)+1)=(q:Int)+1:=(by rw[UO];have:=(Xo2 H);omega);have HN:=Xh6 hn hr hsk ht E0 Y0;clear hn o4 hr hsk ht E0 Y0 hc XA
   go_wp2_with (refine (Xo0 HN).mono ?_;rintro r w1 ⟨rfl,k,rfl⟩;have c1:=((Xo1 HN).drewN k).c1;have f1:=((Xo1 HN).drewN k).f1)
   have M1:=((Xo1 HN).drewN k).setAt ((q:Int)+1);have X0:Q0o ((wr.drewN k).setCell ⟨R,1,none⟩ (.int .i64 ((q:Int)+1))) R s ((q+1:Nat):Int) m d bad:=M1;refine ⟨⟨q+1,?_,X0,?_,?_⟩,?_⟩
   ·have:=(Xo4 HN);have:=(Xo2 H);omega
   ·rw[(Xe5 HN)];exact (Xo2 HN)
   ·exact ((Xo3 HN).drewN k).trans0 (Q1y _ _ _ _)
   ·have h1:=(Xo1 HN).atOf;have h2:=X0.atOf;have:=(Xo4 HN);have:=(Xo2 H);omega
  ·have P0:((c.toNat:Int)==32)=false:=by
    rw[Uj];intro e
    apply h32
    apply Xa1.1
    have h32n:(32:UInt8).toNat=32:=rfl;omega
   have Y0:=Qxq (bad:=bad) (L:=L) (q:=q) (by rw[hc];exact h32);have hqV:q=V:=(by rw[<-hsk,Y0]);have HN:=Xh6 hn hr hqV ht hc o4;clear hn hr hsk ht Y0 hc hqV o4
   go_wp2_with (first|(refine (Xo0 HN).mono ?_;rintro r w1 ⟨rfl,k,rfl⟩)|(refine ((Xe5 HN) _).mono ?_;rintro r w1 ⟨rfl,k2,rfl⟩))
   go_ret;refine ⟨?_,?_,?_⟩
   ·rw[<-(Xo2 HN),(Xo4 HN)];rfl
   ·rw[<-(Xo2 HN),<-World.drewN_drewN];exact ((Xo1 HN).drewN k).drewN k2
   ·rw[<-World.drewN_drewN];exact ((Xo3 HN).drewN k).drewN k2
theorem Qfa (h:Q0o w R s (p:Int) m d bad) (hp:p<=s.size) (hs:s.size<=281474976710656) (lo hi:Int) (Z4:0<=lo):
 Calls Tryz.prog 274 #[.pointer (some ⟨R,0,none⟩),.int .i64 lo,.int .i64 hi] w fun e w'=>
  ((bad=false/\lo<=((Q08 s.data.toList p).toNat:Int)-48/\((Q08 s.data.toList p).toNat:Int)-48<=hi/\e=.returned (.int .i64 (((Q08 s.data.toList p).toNat:Int)-48))/\Q0o w' R s ((p+1:Nat):Int) m d false)∨
    (¬(bad=false/\lo<=((Q08 s.data.toList p).toNat:Int)-48/\((Q08 s.data.toList p).toNat:Int)-48<=hi)/\e=.returned (.int .i64 0)/\Q0o w' R s (p:Int) m d true))/\Q0v (OnR R) w w':=by
 obtain ⟨t,ht⟩:∃t:Int,((nxB s.data.toList p bad).toNat:Int)=t:=⟨_,rfl⟩;have I3:0<=t:=by omega
 have F2:t<256:=by have:=(nxB s.data.toList p bad).toNat_lt;omega
 have Vw:bad=false->((Q08 s.data.toList p).toNat:Int)=t:=by rintro rfl;exact ht
 have QG:bad=true->t=0:=by rintro rfl;rw[<-ht];rfl
 have hn:=Qbv h hs;rw[ht] at hn;have Qt:=fun (k:Nat) (q:Int)=>Q5h (h.drewN k) q;have Ky:IntKind.i64.wrap t=t:=by rw[UO];omega
 have E3:IntKind.i64.wrap (t-48)=t-48:=by rw[UO];omega
 have R4:IntKind.i64.wrap ((p:Int)+1)=(p:Int)+1:=by rw[UO];omega
 have H:=Xh5 h Vw QG hn Qt;have ZL:(p:Int)<=(s.size:Int):=by omega
 have HS:=Xh6 hs ht I3 F2 Z4 ZL;clear h Vw QG hn Qt hs ht I3 F2 Z4 ZL hp
 by_cases hl:t-48<lo
 ·have hN:¬(bad=false/\lo<=((Q08 s.data.toList p).toNat:Int)-48/\((Q08 s.data.toList p).toNat:Int)-48<=hi):=fun ⟨hb,h1,_⟩=>by have:=(Xo1 H) hb;omega
  have HN:=Ua hN;clear hN
  go_enter Tryz.func274,Tryz.ntmps274
  go_wp2_with (first
   |(go_at_call_of 181 (Value.pointer (some ⟨R,0,none⟩));refine (Xo3 H).mono ?_;rintro r w1 ⟨rfl,k,rfl⟩;have c1:=((Xo0 H).drewN k).c1)
   |(refine ((Xe4 H) _ _).mono ?_;rintro r w2 ⟨rfl,X0,F2⟩;have HB:=Xh2 X0 F2;clear X0 F2))
  go_ret;refine ⟨.inr ⟨HN.out,rfl,?_⟩,(Qai _ _ _).trans0 (Xe1 HB)⟩;have h1:=(Xo0 HB)
  split at h1 <;> exact h1
 ·by_cases hh:hi<t-48
  ·have hN:¬(bad=false/\lo<=((Q08 s.data.toList p).toNat:Int)-48/\((Q08 s.data.toList p).toNat:Int)-48<=hi):=fun ⟨hb,_,h1⟩=>by have:=(Xo1 H) hb;omega
   have HN:=Ua hN;clear hN
   go_enter Tryz.func274,Tryz.ntmps274
   go_wp2_with (first
    |(go_at_call_of 181 (Value.pointer (some ⟨R,0,none⟩));refine (Xo3 H).mono ?_;rintro r w1 ⟨rfl,k,rfl⟩;have c1:=((Xo0 H).drewN k).c1)
    |(refine ((Xe4 H) _ _).mono ?_;rintro r w2 ⟨rfl,X0,F2⟩;have HB:=Xh2 X0 F2;clear X0 F2))
   go_ret;refine ⟨.inr ⟨HN.out,rfl,?_⟩,(Qai _ _ _).trans0 (Xe1 HB)⟩;have h1:=(Xo0 HB)
   split at h1 <;> exact h1
  ·have XA:bad=false:=by
    cases bad with
    |false=>rfl
    |true=>have:=(Xo2 H) rfl;have:=HS.out;omega
   subst XA;have HB:=Ua ((Xo1 H) rfl)
   go_enter Tryz.func274,Tryz.ntmps274
   go_wp2_with (first
    |(go_at_call_of 181 (Value.pointer (some ⟨R,0,none⟩));refine (Xo3 H).mono ?_;rintro r w1 ⟨rfl,k,rfl⟩;have c1:=((Xo0 H).drewN k).c1;have f1:=((Xo0 H).drewN k).f1))
   go_ret;refine ⟨.inl ⟨trivial,?_,?_,?_,?_⟩,(Qai _ _ _).trans0 (Q1y _ _ _ _)⟩
   ·rw[HB.out];omega
   ·rw[HB.out];omega
   ·rw[HB.out];rfl
   ·exact ((Xo0 H).drewN k).setAt ((p:Int)+1)
theorem Q9p {s:ByteArray} {p:Nat} (hp:p<s.size):s.data.toList.drop p=(s[p]'hp)::s.data.toList.drop (p+1):=by
 rw[UB (show p<s.data.toList.length from hp)]
 congr 1
theorem Qli {s:ByteArray} {i:Nat} (hi:i<s.size) (h:48<=(s[i]'hi).toNat/\(s[i]'hi).toNat<=57):Q1k s.data.toList (i+1)=Q1k s.data.toList i:=by
 unfold Q1k;rw[Q9p hi,DecM.digN,Uu h];omega
theorem Q8q {s:ByteArray} {i:Nat} (h:∀hi:i<s.size,¬(48<=(s[i]'hi).toNat/\(s[i]'hi).toNat<=57)):Q1k s.data.toList i=i:=by
 unfold Q1k
 by_cases hi:i<s.size
 ·rw[Q9p hi,DecM.digN,Us (h hi)];rfl
 ·rw[Tc (by show s.data.toList.length<=i;have:s.data.toList.length=s.size:=rfl;omega)];rfl
theorem Qfb {p:Int} (h:Q0o w R s p m d bad) (a:Nat) (ha:a<=s.size) (hs:s.size<=281474976710656):
 Calls Tryz.prog 310 #[.pointer (some ⟨R,0,none⟩),.int .i64 (a:Int)] w fun e w'=>e=.returned (.int .i64 ((Q1k s.data.toList a:Nat):Int))/\w=w':=by
 obtain ⟨V,hV⟩:∃V,Q1k s.data.toList a=V:=⟨_,rfl⟩;rw[hV];have c0:=h.c0;have H:=Xh3 hV ha hs;clear h hV ha hs
 go_enter Tryz.func310,Tryz.ntmps310
 go_wp2_with fail
 go_loopw [1] (fun v wr=>∃i:Nat,v=.int .i64 (i:Int)/\i<=s.size/\Q1k s.data.toList i=V/\w=wr) (fun v _=>s.size-(intOf v).toNat)
 case atStart=>exact ⟨a,rfl,(Xo1 H),(Xo0 H),rfl⟩
 case round=>
  obtain ⟨i,rfl,hi,hw,rfl⟩:=hrel;have HW:=Xh2 hi hw;clear hi hw
  by_cases E0:i<s.size
  ·have F0:(i:Int)<(s.size:Int):=by omega
   by_cases m8:(48:Int)<=((s[i]'E0).toNat:Int)
   ·by_cases h57:((s[i]'E0).toNat:Int)<=57
    ·have Qt:IntKind.i64.wrap ((i:Int)+1)=(i:Int)+1:=by rw[UO];have:=(Xe2 H);omega
     go_wp2_with fail
     have Y0:=Qli E0 ⟨by omega,by omega⟩;refine ⟨⟨i+1,?_,by omega,Y0.trans (Xe1 HW),trivial⟩,?_⟩
     ·exact congrArg (Value.int .i64) (by omega)
     ·simp[intOf];omega
    ·have HV:=Ua (show i=V from by rw[<-(Xe1 HW),Q8q (fun _=>by omega)])
     go_wp2_with fail
     go_ret;exact ⟨show Ending.returned (.int .i64 (i:Int))=_ by rw[HV.out],rfl⟩
   ·have HV:=Ua (show i=V from by rw[<-(Xe1 HW),Q8q (fun _=>by omega)])
    go_wp2_with fail
    go_ret;exact ⟨show Ending.returned (.int .i64 (i:Int))=_ by rw[HV.out],rfl⟩
  ·have F0:¬(i:Int)<(s.size:Int):=(by omega);have HV:=Ua (show i=V from by rw[<-(Xe1 HW),Q8q (fun h=>absurd h E0)])
   go_wp2_with fail
   go_ret;exact ⟨show Ending.returned (.int .i64 (i:Int))=_ by rw[HV.out],rfl⟩
def Qiy (R:Nat) (s:ByteArray) (m d:Int) (X:Except Nat Nat) (w':World):Prop:=match X with| .ok q=>Q0o w' R s (q:Int) m d false/\q<=s.size| .error q=>Q0o w' R s (q:Int) m d true/\q<=s.size
theorem Qou {L T:LU} {i p:Nat} {c:UInt8} {r:LU} (h:T.drop i=c::r) (hc:Q08 L p=c):Q2e L (T.drop i) p=Q2e L (T.drop (i+1)) (p+1):=by
 have h2:T.drop (i+1)=r:=by rw[<-List.tail_drop,h];rfl
 rw[h2,h,Q2e,Uu hc]
theorem Q9q (h:Q0o w R s (p:Int) m d bad) (hp:p<=s.size) (hs:s.size<=281474976710656) (t:ByteArray) (ht:t.size<=281474976710656) (hnz:∀c∈t.data.toList,c≠0) (Xc:0<t.size):
 Calls Tryz.prog 129 #[.pointer (some ⟨R,0,none⟩),.string t] w fun e w'=>e=.returned (.tuple #[])/\Q0v (OnR R) w w'/\Qiy R s m d (if bad=true then Except.error p else Q2e s.data.toList t.data.toList p) w':=by
 obtain ⟨X,hX⟩:∃X,(if bad=true then Except.error p else Q2e s.data.toList t.data.toList p)=X:=⟨_,rfl⟩;rw[hX];have H:=Xh7 h hp hs ht hnz hX Xc;clear h hp hs ht hnz hX Xc
 go_enter Tryz.func129,Tryz.ntmps129
 go_wp2_with fail
 go_loopw [7] (fun v wr=>∃i q:Nat,v=.int .i64 (i:Int)/\i<=t.size/\q<=s.size/\Q0o wr R s (q:Int) m d bad/\(bad=true->i=0/\q=p)/\(bad=false->Q2e s.data.toList (t.data.toList.drop i) q=X)/\Q0v (OnR R) w wr) (fun v _=>t.size-(intOf v).toNat)
 case atStart=>exact ⟨0,p,rfl,Ut _,(Xo1 H),(Xo0 H),fun _=>⟨rfl,rfl⟩,fun hb=>by have:=(Xo5 H);rw[hb] at this;simpa using this,Q0v.refl _ _⟩
 case round=>
  obtain ⟨i,q,rfl,hi,hq,hr,YL,XA,htn⟩:=hrel
  by_cases E0:i<t.size
  ·have F0:(i:Int)<(t.size:Int):=(by omega);have hn:=fun k=>Qbv (hr.drewN k) (Xo2 H);have hwg:=fun (k:Nat) (z:Int)=>Q5h (hr.drewN k) z;obtain ⟨c,hc⟩:∃c,nxB s.data.toList q bad=c:=⟨_,rfl⟩;rw[hc] at hn;have HN:=Xh9 hn hr YL XA htn hc hwg hi hq;clear hn hr YL XA htn hc hwg hi hq
   by_cases G4:c=(t[i]'E0)
   ·have hbeq:((c.toNat:Int)==((t[i]'E0).toNat:Int))=true:=(by rw[G4];simp);have Qn:((c.toNat:Int) != ((t[i]'E0).toNat:Int))=false:=(by rw[G4];simp);have Z0:bad=false/\q<s.size/\Q08 s.data.toList q=(t[i]'E0):=by
     have h1:=(Xo5 HN);have h2:(t[i]'E0)≠0:=(Xo4 H) _ (by rw[show (t[i]'E0)=t.data.toList[i]'(by exact E0) from (Array.getElem_toList _).symm];exact List.getElem_mem _);obtain ⟨a1,a2,a3⟩:=Qxm (s:=s.data.toList) (p:=q) (bad:=bad) (by rw[h1,G4];exact h2);exact ⟨a1,a2,by rw[<-a3,h1,G4]⟩
    have HB:=Ua Z0;clear Z0 G4;have Qt:IntKind.i64.wrap ((i:Int)+1)=(i:Int)+1:=(by rw[UO];have:=(Xo3 H);omega);have Vq:IntKind.i64.wrap ((q:Int)+1)=(q:Int)+1:=by rw[UO];have:=(Xo2 H);have:=(Xe8 HN);omega
    go_wp2_with fail
    go_quiet (first|(refine Calls.quiet_of ((Xo0 HN) _)))
    have c1:=((Xo1 HN).drewN nq).c1;have f1:=((Xo1 HN).drewN nq).f1
    go_wp2_with fail
    refine ⟨⟨i+1,q+1,?_,by omega,?_,?_,?_,?_,?_⟩,?_⟩
    ·exact congrArg (Value.int .i64) (by omega)
    ·exact (Xo1 HB)
    ·exact ((Xo1 HN).drewN nq).setAt ((q:Int)+1)
    ·intro hb;rw[(Xo0 HB)] at hb;cases hb
    ·intro _;rw[<-(Xo3 HN) (Xo0 HB)];exact (Qou (Q9p E0) (Xe2 HB)).symm
    ·exact ((Xo4 HN).drewN nq).trans0 (Q1y _ _ _ _)
    ·simp[intOf];omega
   ·have hbeq:((c.toNat:Int)==((t[i]'E0).toNat:Int))=false:=by
     rw[Uj];intro e;exact G4 (Xa1.1 (by omega))
    have Qn:((c.toNat:Int) != ((t[i]'E0).toNat:Int))=true:=(by rw[bne,hbeq];rfl);have HQ:=Ua G4;clear G4
    go_wp2_with fail
    go_quiet (first|(refine Calls.quiet_of ((Xo0 HN) _)))
    have c1:=((Xo1 HN).drewN nq).c1
    go_wp2_with (refine ((Xo6 HN) _ _).mono ?_;rintro r w2 ⟨rfl,X0,F2⟩;have HB:=Xh2 X0 F2;clear X0 F2)
    refine ⟨rfl,.tuple #[],by simp[results],rfl,((Xo4 HN).drewN nq).trans0 (Xe1 HB),?_⟩;have h1:=(Xo0 HB);cases bad with
    |true=>
     obtain ⟨rfl,rfl⟩:=(Xo2 HN) rfl;have hX:=(Xo5 H);rw[Uu rfl] at hX;rw[<-hX];exact ⟨h1,(Xo1 H)⟩
    |false=>
     have hX:=(Xo3 HN) rfl;rw[Q9p E0,Q2e,Us (by
      have h2:=(Xo5 HN);intro e;exact HQ.out (by rw[<-h2,<-e];rfl))] at hX
     rw[<-hX];exact ⟨h1,(Xe8 HN)⟩
  ·have F0:¬(i:Int)<(t.size:Int):=(by omega);have HN:=Xh6 hr YL XA htn hi hq;clear hr YL XA htn hi hq
   go_wp2_with fail
   refine ⟨rfl,.tuple #[],by simp[results],rfl,(Xo3 HN),?_⟩;have O8:i=t.size:=(by have:=(Xo4 HN);omega);cases bad with
   |true=>have:=((Xo1 HN) rfl).1;have:=(Xe6 H);omega
   |false=>
    have hX:=(Xo2 HN) rfl;rw[Tc (show t.data.toList.length<=i by have:t.data.toList.length=t.size:=rfl;omega),Q2e] at hX;rw[<-hX];exact ⟨(Xo0 HN),(Xe5 HN)⟩
end
open DecM
theorem Qfc:∀(l:LU) (acc k:Nat),Qk4 l->acc<10^k->k+l.length<=19->Lib.parseUintM 18446744073709551615 acc l=.ok (l.foldl (fun a b=>10*a+(b.toNat-48)) acc)
 |[],acc,k,_,_,_=>rfl
 |c::r,acc,k,h,ha,hk=>by
  have hc:=h c (by simp);rw[Um] at hk;have h18:acc<10^18:=Ue ha (UL (by decide) (by omega));have h1:acc*10+(c.toNat-48)<10^(k+1):=by rw[Tg];omega
  have h2:(10:Nat)^(k+1)<=10^19:=UL (by decide) (by omega);have e18:(10:Nat)^18=1000000000000000000:=rfl;have e19:(10:Nat)^19=10000000000000000000:=rfl;rw[e18] at h18;rw[e19] at h2;have ih:=Qfc r (acc*10+(c.toNat-48)) (k+1) (fun x hx=>h x (by simp[hx])) h1 (by omega);rw[Lib.parseUintM,Uu hc,Us (by omega),Us (by omega),ih,Xbg,UA acc 10]
theorem Qs5 (l:LU) (h:Qk4 l) (h0:l≠[]) (hl:l.length<=19):Lib.parseUintB 64 l=.ok (dv l):=by
 unfold Lib.parseUintB;rw[Us h0];exact Qfc l 0 0 h (by decide) (by omega)
theorem Qn0 (s:ByteArray) (n:Nat):(s.extract 0 n).data.toList=s.data.toList.take n:=by simp
theorem Qn1 (s:ByteArray) (n:Nat):(s.extract n s.size).data.toList=s.data.toList.drop n:=by
 have hl:s.data.toList.length=s.size:=rfl;simp only[ByteArray.data_extract,Array.toList_extract,List.extract_eq_take_drop];exact Uz (by rw[Tu,hl];exact Uf _)
def lenOf:Value->Nat
 | .string b=>b.size
 |_=>0
theorem Qfd (w:World) (m:Nat) (hm:m<18446744073709551616) (T:TypeId):WordsIn (w.alloc (.cells #[.int .u64 (m:Int)] T)) (some ⟨w.heap.size,0,none⟩) 1 1 [m]:=
 ⟨rfl,Uf _,by omega,fun x hx=>by rw[UC] at hx;subst hx;exact hm,.inr ⟨w.heap.size,0,rfl,by rw[Uk];omega,fun j x hx=>by
   cases j with
   |zero=>simp only[US,Up] at hx;subst hx;rw[Uw _ _ _ _ _ _ (Uo _ _)];rfl
   |succ j=>simp at hx⟩⟩
theorem Qs6 (s:ByteArray) (w:World) (hs:s.size<=1300) (ha:Qk4 s.data.toList):
 Calls Tryz.prog 269 #[.string s] w (Q90 w (dv s.data.toList)):=by
 have H:=Ua ha;clear ha
 go_enter Tryz.func269,Tryz.ntmps269
 go_wp2_with fail
 go_loopw [0,3] (fun tv wv wr=>∃(t:ByteArray) (pre:LU) (a:OA) (n c:Nat),tv=.string t/\wv=.slice a n c/\s.data.toList=pre++t.data.toList/\WordsIn wr a n c (dig (2^64) (dv pre))/\Bw w wr) (fun tv _ _=>lenOf tv)
 case atStart=>exact ⟨s,[],none,0,0,rfl,rfl,rfl,⟨rfl,Uf _,by omega,fun x hx=>by simp[dv,Q1d] at hx,.inl rfl⟩,Uc _ _⟩
 case round=>
  obtain ⟨t,pre,a,n,c,rfl,rfl,M2,hW,hb⟩:=hrel;have E0:t.data.toList.length=t.size:=rfl;have Y1:pre.length+t.size=s.size:=by
   have h1:=congrArg List.length M2;rw[Uh,E0] at h1;exact h1.symm
  by_cases ht:t.size=0
  ·have htI:¬(0:Int)<(t.size:Int):=(by omega);have Qj:t.data.toList=[]:=UH.1 (by rw[E0];exact ht);rw[Qj,Xaf] at M2;rw[<-M2] at hW;have HE:=Xh2 hW hb;clear hW hb M2 Qj E0
   go_wp2_with fail
   go_ret;exact ⟨a,n,c,rfl,(Xo0 HE),(Xe1 HE)⟩
  ·have htI:(0:Int)<(t.size:Int):=(by omega);obtain ⟨k,hk⟩:∃k,min t.size 19=k:=⟨_,rfl⟩;have hmin:min (t.size:Int) 19=(k:Int):=(by omega);have J2:1<=k:=(by omega);have hk19:k<=19:=(by omega);have hkt:k<=t.size:=(by omega);obtain ⟨u,hu⟩:∃u:ByteArray,t.extract 0 k=u:=⟨_,rfl⟩;obtain ⟨rest,x5⟩:∃r:ByteArray,t.extract k t.size=r:=⟨_,rfl⟩;have Vg:u.data.toList=t.data.toList.take k:=(by rw[<-hu];exact Qn0 t k);have Zn:rest.data.toList=t.data.toList.drop k:=(by rw[<-x5];exact Qn1 t k);have YS:u.data.toList.length=k:=(by rw[Vg,UW,E0];omega);have XV:rest.size=t.size-k:=by
    have:rest.data.toList.length=rest.size:=rfl;rw[<-this,Zn,Tu,E0]
   have R1:Qk4 t.data.toList:=fun x hx=>H.out x (by rw[M2];simp[hx]);have hau:Qk4 u.data.toList:=fun x hx=>R1 x (by rw[Vg] at hx;exact Ts hx);have KO:Qk4 pre:=fun x hx=>H.out x (by rw[M2];simp[hx]);have hp:=Qs5 u.data.toList hau (fun e=>by rw[e] at YS;simp at YS;omega) (by omega);have hvu:dv u.data.toList<10^19:=Ue (Qhs _ hau) (by rw[YS];exact UL (by decide) hk19);have J8:dv (pre++u.data.toList)=dv pre*10^k+dv u.data.toList:=(by rw[Qhr,YS]);have hpu:s.data.toList=(pre++u.data.toList)++rest.data.toList:=(by rw[UN,Vg,Zn,Xbf];exact M2);obtain ⟨v,hv⟩:∃v,dv u.data.toList=v:=⟨_,rfl⟩;have hvpre:(dig (2^64) (dv pre)).length<=pre.length:=Q2q (by decide) (Ue (Qhs pre KO) (Xbj (by decide) pre.length));have hn13:n<=1300:=(by rw[<-hW.len];omega);rw[hv] at hp hvu J8;have e19:(10:Nat)^19=10000000000000000000:=rfl;rw[e19] at hvu;have ZD:v<18446744073709551616:=(by omega);have VO:=fun W=>Tryz.J1v u (by have:u.data.toList.length=u.size:=rfl;omega) v hp W;have hLEN:∀T,T=10^k->(dig (2^64) (dv pre*T)).length<=1302:=fun T hT=>by
    have h1:dv pre*T<10^(pre.length+k):=by
     rw[hT,Tw];exact TW (Qhs pre KO) (Tv (by decide))
    have h2:(dig (2^64) (dv pre*T)).length<=pre.length+k:=Q2q (by decide) (Ue h1 (Xbj (by decide) _));omega
   have HLEN:=Ua hLEN;clear hLEN;have HP:=Xh6 VO J8 hpu hW hb XV;clear VO J8 hpu hW hb XV hp hv hvpre KO hau R1 Zn Vg M2 E0 e19 hvu hk YS
   go_wp2_with (refine ((Xo0 HP) _).mono ?_;rintro e w1 ⟨rfl,E3⟩;have A0:Bw wr w1:=by { rcases E3 with rfl|rfl;exact Uc _ _;exact Lib.bytesWorld_below _ _ _ };have O0:=Ua A0;clear E3 A0)
   go_loopw [7,22] (fun tv iv wz=>∃(i T:Nat),tv=.int .u64 (T:Int)/\iv=.int .i64 (i:Int)/\i<=k/\T=10^i/\w1=wz) (fun _ iv _=>k-(intOf iv).toNat)
   case atStart=>exact ⟨0,1,rfl,rfl,Ut _,rfl,rfl⟩
   case round=>
    obtain ⟨i,T,rfl,rfl,hi,hT,rfl⟩:=hrel;have R8:T<=10000000000000000000:=by
     rw[hT];have h1:(10:Nat)^i<=10^19:=UL (by decide) (by omega);have h2:(10:Nat)^19=10000000000000000000:=rfl;rwa[h2] at h1
    by_cases hlk:i<k
    ·have hlkI:(i:Int)<(k:Int):=(by omega);have hT18:T<=1000000000000000000:=by
      rw[hT];have h1:(10:Nat)^i<=10^18:=UL (by decide) (by omega);have h2:(10:Nat)^18=1000000000000000000:=rfl;rwa[h2] at h1
     obtain ⟨T2,hT2⟩:∃T2,T*10=T2:=⟨_,rfl⟩;have hTI:(T:Int)*10=(T2:Int):=(by omega);have hT2l:(T2:Int)<18446744073709551616:=(by omega);have HT:=Ua (show T2=10^(i+1) by rw[<-hT2,hT,Tg]);clear hT hT2 R8 hT18
     go_wp2_with fail
     exact ⟨⟨i+1,T2,rfl,by simp,by omega,HT.out,trivial⟩,by simp only[intOf];omega⟩
    ·obtain rfl:k=i:=(by omega);have hlkI:¬(k:Int)<(k:Int):=(by omega);have hWm:=fun W (F7:Bw wr W)=>Qf2 a n c (dig (2^64) (dv pre)) (some ⟨W.heap.size,0,none⟩) 1 1 [T] (W.alloc (.cells #[.int .u64 (T:Int)] 83)) (((Xo3 HP).step F7).step (Ba)) (Qfd W T (by omega) 83) (by omega) (by decide);have HM:=Ua hWm;have HT:=Ua hT;clear hWm hT
     go_wp2_with (first
      |(go_at_call_of 296 a;refine (HM.out _ O0.out).mono ?_;rintro e w2 ⟨a2,n2,c2,rfl,u4,D0⟩;rw[Q0s (by decide),show val (2^64) [T]=T by simp[val]] at u4;
        have o4:n2<=1302:=by { rw[<-u4.len];exact (HLEN.out T HT.out) };
        have D1:=Xh2 u4 (Below.next0 O0.out (Below.next0 (Ba) D0));clear u4 D0)
      |(refine (Qem a2 n2 c2 _ (some ⟨w2.heap.size,0,none⟩) 1 1 [v] (w2.alloc (.cells #[.int .u64 (v:Int)] 83)) ((Xo0 D1).step (Ba)) (Qfd w2 v ZD 83) (by omega) (by decide)).mono ?_;rintro e w3 ⟨a3,n3,c3,rfl,j6,I0⟩;rw[Q0s (by decide),show val (2^64) [v]=v by simp[val]] at j6;
        have A3:=Xh2 j6 (Below.next0 (Xe1 D1) (Below.next0 (Ba) I0));clear j6 I0))
     refine ⟨⟨rest,pre++u.data.toList,a3,n3,c3,rfl,rfl,(Xo2 HP),?_,Below.next0 (Xo4 HP) (Xe1 A3)⟩,?_⟩
     ·rw[(Xo1 HP),<-HT.out];exact (Xo0 A3)
     ·show rest.size<t.size
      have:=(Xe5 HP);omega
theorem Qgu (l:LU) (b:UInt8):Lib.hasPrefix l [b]=(match l with|[]=>false|c::_=>decide (c=b))/\Lib.trimPrefix l [b]=(match l with|[]=>[]|c::r=>if c=b then r else c::r):=by
 cases l with
 |nil=>exact ⟨rfl,rfl⟩
 |cons c r=>
  by_cases h:c=b
  ·subst h;simp[Lib.hasPrefix,Lib.trimPrefix]
  ·have h2:¬b=c:=fun e=>h e.symm;simp[Lib.hasPrefix,Lib.trimPrefix,List.isPrefixOf,h,h2]
theorem Qiz (l:LU):Lib.hasPrefix l [45]=(Q2o l).1/\Lib.trimPrefix l [45]=(Q2o l).2:=by
 have h:=Qgu l 45;cases l with
 |nil=>exact ⟨by rw[h.1];rfl,by rw[h.2];rfl⟩
 |cons c r=>
  by_cases hc:c=45
  ·rw[h.1,h.2];simp[Q2o,hc]
  ·rw[h.1,h.2];simp[Q2o,hc]
theorem Qs7 (s:ByteArray) (l:LU) (h:s.data.toList=l):s=⟨l.toArray⟩:=by
 subst h;exact ByteArray.ext (by simp)
theorem Qov (l:LU) (h:Qk4 l) (h0:l≠[]) (hl:l.length<=6):Lib.parseIntB 64 l=.ok (dv l:Int):=by
 have hp:=Qs5 l h h0 (by omega);have hb:dv l<10^6:=Ue (Qhs l h) (UL (by decide) hl);have e6:(10:Nat)^6=1000000:=rfl;rw[e6] at hb;cases l with
 |nil=>exact absurd rfl h0
 |cons c r=>
  have hc:=h c (by simp);unfold Lib.parseIntB;simp only;rw[Us (by omega),hp];simp only;have hn:¬c.toNat=45:=by omega
  have e63:(2:Nat)^63=9223372036854775808:=rfl;rw[Us (by rintro ⟨_,h2⟩;rw[show 64-1=63 from rfl,e63] at h2;omega),Us (by rintro ⟨h2,_⟩;exact hn h2)];simp[hn]
theorem Q26 {s:ByteArray} {k:Nat} (h:Qyp s k):digN s.data.toList=k:=by
 have h1:=Quq (s:=s) (at_:=0) (k:=k) (Ut _) h.1 (fun j hj _ hk=>h.2.1 j hj hk) h.2.2;rw[Xba] at h1;omega
def Q6g (w0:World) (S:LU) (e:Ending) (w':World):Prop:=
 (∃(x:Int) (ok:Bool),e=.returned (.tuple #[.int .i64 x,.bool ok])/\(ok=true/\Qea S=some x/\-1000000<=x/\x<=1000000∨ok=false/\Qea S=none))/\Bw w0 w'
theorem Q6g.good {w0 w':World} {S:LU} {x:Int} (h:Qea S=some x) (h1: -1000000<=x) (h2:x<=1000000) (hb:Bw w0 w'):Q6g w0 S (.returned (.tuple #[.int .i64 x,.bool true])) w':=⟨⟨x,true,rfl,.inl ⟨rfl,h,h1,h2⟩⟩,hb⟩
theorem Q6g.bad {w0 w':World} {S:LU} {x:Int} (h:Qea S=none) (hb:Bw w0 w'):Q6g w0 S (.returned (.tuple #[.int .i64 x,.bool false])) w':=⟨⟨x,false,rfl,.inr ⟨rfl,h⟩⟩,hb⟩
theorem Qs8 (s:ByteArray) (w:World) (hs:s.size<=281474976710656):
 Calls Tryz.prog 268 #[.string s] w (Q6g w s.data.toList):=by
 have K0:s.data.toList.length=s.size:=rfl
 by_cases h0:s.size=0
 ·have Qj:s.data.toList=[]:=UH.1 (by rw[K0];exact h0);have R7:s=⟨#[]⟩:=Qs7 s [] Qj;subst R7
  go_enter Tryz.func268,Tryz.ntmps268
  go_wp2_with fail
  refine ⟨rfl,.tuple #[.int .i64 0,.bool true],by simp[results,go_sem],Q6g.good rfl (by decide) (by decide) (Uc _ _)⟩
 ·obtain ⟨c,r,hS⟩:∃c r,s.data.toList=c::r:=by
   cases h:s.data.toList with
   |nil=>rw[h] at K0;simp at K0;omega
   |cons c r=>exact ⟨c,r,rfl⟩
  have R7:s=⟨(c::r).toArray⟩:=Qs7 s _ hS;have P0:¬s=⟨#[]⟩:=fun e=>h0 (by rw[e];rfl);have hne2:s.toList.isEmpty=false:=by rw[ByteArray.toList_eq,hS];rfl
  rw[hS];have C2:=fun W=>Tryz.J0v s ⟨#[112]⟩ W;rw[hS] at C2
  by_cases hp:c=112
  ·subst hp;have K8:=Qgu (112::r) 112;simp only[Xa8] at K8;have hq:=Qiz r;have Zn:r.length<=281474976710656:=(by rw[hS] at K0;simp at K0;omega);have KV:∀W,Calls Tryz.prog 173 #[.string s,.string ⟨#[112]⟩] W fun e w'=>e=.returned (.tuple #[.string ⟨r.toArray⟩,.bool true])/\W=w':=fun W=>(C2 W).mono (by
    rintro e w' ⟨rfl,rfl⟩;refine ⟨?_,rfl⟩
    show Ending.returned (.tuple #[.string ⟨(Lib.trimPrefix (112::r) [112]).toArray⟩,.bool (Lib.hasPrefix (112::r) [112])])=_
    rw[K8.1,K8.2];simp)
   obtain ⟨low,t,Jf⟩:∃low t,Q2o r=(low,t):=⟨_,_,rfl⟩;have hc2':∀W,Calls Tryz.prog 173 #[.string ⟨r.toArray⟩,.string ⟨#[45]⟩] W fun e w'=>e=.returned (.tuple #[.string ⟨t.toArray⟩,.bool low])/\W=w':=fun W=>(Tryz.J0v ⟨r.toArray⟩ ⟨#[45]⟩ W).mono (by
    rintro e w' ⟨rfl,rfl⟩;refine ⟨?_,rfl⟩
    show Ending.returned (.tuple #[.string ⟨(Lib.trimPrefix (r.toArray.toList) [45]).toArray⟩,.bool (Lib.hasPrefix (r.toArray.toList) [45])])=_
    rw[List.toList_toArray,hq.1,hq.2,Jf])
   have S5:t.length<=r.length:=by
    have h1:(Q2o r).2.length<=r.length:=by
     cases r with
     |nil=>simp[Q2o]
     |cons x y=>simp only[Q2o];split <;> simp
    rw[Jf] at h1;exact h1
   have d6:Qea (112::r)=if t.length<1∨6<t.length∨digN t<t.length∨t.headD 0=48 then none else some (if low=true then -(dv t:Int) else (dv t:Int)):=by
    rw[Qea,Us (by simp),Jf]
   have HC:=Xh3 KV hc2' d6;obtain ⟨T,hT⟩:∃T:ByteArray,T=⟨t.toArray⟩:=⟨_,rfl⟩;have Ja:T.size=t.length:=(by rw[hT];rfl);have R8:T.data.toList=t:=(by rw[hT]);rw[<-hT] at HC;have HT:=Xh2 Ja R8;clear C2 KV hc2' K8 hq Jf d6 hT hS R7;have Q1:=fun W=>Qrh T W (by omega);obtain ⟨k,hk⟩:∃k,digN t=k:=⟨_,rfl⟩;have Qv:=Qch t;rw[hk] at Qv;have HK:=Ua hk;clear hk K0 hs
   by_cases h1:t.length<1
   ·have hTI:(T.size:Int)<1:=(by omega);have hE:Qea (112::r)=none:=(by rw[(Xe2 HC),Uu (.inl h1)]);have HE:=Ua hE;clear hE;clear Ja R8
    go_enter Tryz.func268,Tryz.ntmps268
    go_wp2_with (first
     |(go_at_call_of 173 (Value.string s);refine ((Xo0 HC) _).mono ?_;rintro e w1 ⟨rfl,rfl⟩)
     |(go_at_call_of 173 (Value.string ⟨r.toArray⟩);refine ((Xo1 HC) _).mono ?_;rintro e w1 ⟨rfl,rfl⟩))
    refine ⟨rfl,.tuple #[.int .i64 0,.bool false],by simp[results,go_sem],Q6g.bad HE.out (Uc _ _)⟩
   ·have hTI:¬(T.size:Int)<1:=by omega
    by_cases h6:6<t.length
    ·have hT6:(6:Int)<(T.size:Int):=(by omega);have hE:Qea (112::r)=none:=(by rw[(Xe2 HC),Uu (.inr (.inl h6))]);have HE:=Ua hE;clear hE;clear Ja R8
     go_enter Tryz.func268,Tryz.ntmps268
     go_wp2_with (first
      |(go_at_call_of 173 (Value.string s);refine ((Xo0 HC) _).mono ?_;rintro e w1 ⟨rfl,rfl⟩)
      |(go_at_call_of 173 (Value.string ⟨r.toArray⟩);refine ((Xo1 HC) _).mono ?_;rintro e w1 ⟨rfl,rfl⟩))
     refine ⟨rfl,.tuple #[.int .i64 0,.bool false],by simp[results,go_sem],Q6g.bad HE.out (Uc _ _)⟩
    ·have hT6:¬(6:Int)<(T.size:Int):=by omega
     by_cases hkt:k<t.length
     ·have Kz:(k:Int)<(T.size:Int):=(by omega);have hE:Qea (112::r)=none:=(by rw[(Xe2 HC),Uu (.inr (.inr (.inl (by rw[HK.out];exact hkt))))]);have HE:=Ua hE;clear hE;clear Ja R8
      go_enter Tryz.func268,Tryz.ntmps268
      go_wp2_with (first
       |(go_at_call_of 173 (Value.string s);refine ((Xo0 HC) _).mono ?_;rintro e w1 ⟨rfl,rfl⟩)
       |(go_at_call_of 173 (Value.string ⟨r.toArray⟩);refine ((Xo1 HC) _).mono ?_;rintro e w1 ⟨rfl,rfl⟩)
       |(refine (Q1 _).mono ?_;rintro e w2 ⟨⟨k',rfl,m6⟩,D0⟩;obtain rfl:k=k':=by { rw[<-HK.out,<-(Xe1 HT)];exact Q26 m6 };have D1:=Ua D0;clear D0 m6))
      refine ⟨rfl,.tuple #[.int .i64 0,.bool false],by simp[results,go_sem],Q6g.bad HE.out (D1.out)⟩
     ·have Kz:¬(k:Int)<(T.size:Int):=(by omega);have W7:0<T.size:=(by omega);have QJ:t.headD 0=(T[0]'W7):=by
       have h:=Qri (s:=T) (at_:=0) W7;rw[Xba,(Xe1 HT)] at h;exact h
      by_cases m8:(T[0]'W7)=48
      ·have Zt:(((T[0]'W7).toNat:Int)==48)=true:=(by rw[m8];rfl);have hE:Qea (112::r)=none:=(by rw[(Xe2 HC),Uu (.inr (.inr (.inr (by rw[QJ];exact m8))))]);have HE:=Ua hE;clear hE;clear Ja R8
       go_enter Tryz.func268,Tryz.ntmps268
       go_wp2_with (first
        |(go_at_call_of 173 (Value.string s);refine ((Xo0 HC) _).mono ?_;rintro e w1 ⟨rfl,rfl⟩)
        |(go_at_call_of 173 (Value.string ⟨r.toArray⟩);refine ((Xo1 HC) _).mono ?_;rintro e w1 ⟨rfl,rfl⟩)
        |(refine (Q1 _).mono ?_;rintro e w2 ⟨⟨k',rfl,m6⟩,D0⟩;obtain rfl:k=k':=by { rw[<-HK.out,<-(Xe1 HT)];exact Q26 m6 };have D1:=Ua D0;clear D0 m6))
       refine ⟨rfl,.tuple #[.int .i64 0,.bool false],by simp[results,go_sem],Q6g.bad HE.out (D1.out)⟩
      ·have Zt:(((T[0]'W7).toNat:Int)==48)=false:=(by rw[Uj];intro e;exact m8 (Xa1.1 (show (T[0]'W7).toNat=48 by omega)));have R0:Qk4 t:=by
        have h:=Q7h t;rw[HK.out,Uz (by omega)] at h;exact h
       have hE:=(Xe2 HC);rw[Us (by rintro (h|h|h|h);exact h1 h;exact h6 h;(rw[HK.out] at h;exact hkt h);(rw[QJ] at h;exact m8 h))] at hE;have hpi:=Qov t R0 (fun e=>by rw[e] at h1;simp at h1) (by omega);have hdvl:dv t<10^6:=Ue (Qhs t R0) (UL (by decide) (by omega));have e6:(10:Nat)^6=1000000:=rfl;rw[e6] at hdvl;obtain ⟨x,hx⟩:∃x,dv t=x:=⟨_,rfl⟩;rw[hx] at hE hpi hdvl;have hxI:(x:Int)<=1000000:=(by omega);have VO:=fun W=>Tryz.J1s T (by omega) (x:Int) (by rw[(Xe1 HT)];exact hpi) W;have HP:=Ua VO;clear VO hpi hx hdvl e6 R0 QJ m8 hkt;cases low
       ·have HE:=Ua (show Qea (112::r)=some (x:Int) from hE);clear hE;clear Ja R8
        go_enter Tryz.func268,Tryz.ntmps268
        go_wp2_with (first
         |(go_at_call_of 173 (Value.string s);refine ((Xo0 HC) _).mono ?_;rintro e w1 ⟨rfl,rfl⟩)
         |(go_at_call_of 173 (Value.string ⟨r.toArray⟩);refine ((Xo1 HC) _).mono ?_;rintro e w1 ⟨rfl,rfl⟩)
         |(refine (Q1 _).mono ?_;rintro e w2 ⟨⟨k',rfl,m6⟩,D0⟩;obtain rfl:k=k':=by { rw[<-HK.out,<-(Xe1 HT)];exact Q26 m6 };have D1:=Ua D0;clear D0 m6)
         |(refine (HP.out _).mono ?_;rintro e w3 ⟨rfl,XO⟩;have I0:Bw w2 w3:=by { rcases XO with rfl|⟨t',rfl⟩;exact Uc _ _;exact Lib.bytesWorld_below _ _ _ };have A3:=Ua I0;clear XO I0))
        refine ⟨rfl,.tuple #[.int .i64 (x:Int),.bool true],by simp[results,go_sem],Q6g.good HE.out (by omega) hxI (Below.next0 D1.out A3.out)⟩
       ·have HE:=Ua (show Qea (112::r)=some (-(x:Int)) from hE);clear hE;clear Ja R8
        go_enter Tryz.func268,Tryz.ntmps268
        go_wp2_with (first
         |(go_at_call_of 173 (Value.string s);refine ((Xo0 HC) _).mono ?_;rintro e w1 ⟨rfl,rfl⟩)
         |(go_at_call_of 173 (Value.string ⟨r.toArray⟩);refine ((Xo1 HC) _).mono ?_;rintro e w1 ⟨rfl,rfl⟩)
         |(refine (Q1 _).mono ?_;rintro e w2 ⟨⟨k',rfl,m6⟩,D0⟩;obtain rfl:k=k':=by { rw[<-HK.out,<-(Xe1 HT)];exact Q26 m6 };have D1:=Ua D0;clear D0 m6)
         |(refine (HP.out _).mono ?_;rintro e w3 ⟨rfl,XO⟩;have I0:Bw w2 w3:=by { rcases XO with rfl|⟨t',rfl⟩;exact Uc _ _;exact Lib.bytesWorld_below _ _ _ };have A3:=Ua I0;clear XO I0))
        refine ⟨rfl,.tuple #[.int .i64 (-(x:Int)),.bool true],by simp[results,go_sem],Q6g.good HE.out (by omega) (by omega) (Below.next0 D1.out A3.out)⟩
  ·have K8:=Qgu (c::r) 112;simp only[Us hp] at K8;have Kw:decide (c=112)=false:=UX hp;have KV:∀W,Calls Tryz.prog 173 #[.string s,.string ⟨#[112]⟩] W fun e w'=>e=.returned (.tuple #[.string s,.bool false])/\W=w':=fun W=>(C2 W).mono (by
    rintro e w' ⟨rfl,rfl⟩;refine ⟨?_,rfl⟩
    show Ending.returned (.tuple #[.string ⟨(Lib.trimPrefix (c::r) [112]).toArray⟩,.bool (Lib.hasPrefix (c::r) [112])])=_
    rw[K8.1,K8.2,Kw,<-R7])
   have A2:=fun W=>Tryz.J0v s ⟨#[45]⟩ W;have hE:Qea (c::r)=none:=(by rw[Qea,Uu hp]);have HC:=Xh3 KV A2 hE;clear C2 KV A2 K8 Kw hE hS R7 K0
   go_enter Tryz.func268,Tryz.ntmps268
   go_wp2_with (first
    |(go_at_call_of 173 (Value.string ⟨#[112]⟩);refine ((Xo0 HC) _).mono ?_;rintro e w1 ⟨rfl,rfl⟩)
    |(go_at_call_of 173 (Value.string ⟨#[45]⟩);refine ((Xo1 HC) _).mono ?_;rintro e w1 ⟨rfl,E3⟩;obtain rfl:=E3.symm))
   refine ⟨rfl,.tuple #[.int .i64 0,.bool false],by simp[results,go_sem],Q6g.bad (Xe2 HC) (Uc _ _)⟩
def Q14 (S:LU) (neg':Bool) (e':Int) (L:LN) (er:Int):Prop:=match form S with
 |none=>neg'=false/\e'=0/\L=[]/\er=5
 |some (neg,v,e)=>Qfy neg v e neg' e' L er
theorem Q14.none_ {S:LU} (h:form S=none):Q14 S false 0 [] 5:=by unfold Q14;rw[h];exact ⟨rfl,rfl,rfl,rfl⟩
theorem Q14.some_ {S:LU} {neg:Bool} {v:Nat} {e:Int} (h:form S=some (neg,v,e)) {neg':Bool} {e':Int} {L:LN} {er:Int} (hm:Qfy neg v e neg' e' L er):Q14 S neg' e' L er:=by unfold Q14;rw[h];exact hm
theorem Qow (l:LU) (x:Int) (h:Qea l=some x): -1000000<=x/\x<=1000000:=by
 cases l with
 |nil=>rw[Qea] at h;injection h with h;omega
 |cons c r=>
  rw[Qea] at h
  split at h
  ·cases h
  ·split at h
   ·cases h
   ·rename_i h2;have hd:Qk4 (Q2o r).2:=by
     have h3:=Q7h (Q2o r).2;rw[Uz (by omega)] at h3;exact h3
    have hb:dv (Q2o r).2<10^6:=Ue (Qhs _ hd) (UL (by decide) (by omega));have e6:(10:Nat)^6=1000000:=rfl;rw[e6] at hb;injection h with h
    split at h <;> omega
def Q5i (w0:World) (Φ:Bool->Int->LN->Int->Prop) (r:Ending) (w':World):Prop:=
 ∃neg' e' a' n' c' L er,r=.returned (.tuple #[.agg #[.bool neg',.int .i64 e',.slice a' n' c'],.int .i64 er])/\Φ neg' e' L er/\Q2n w0 w' a' n' c' L/\Bw w0 w'
theorem Q5i.of {w0 w':World} {Φ:Bool->Int->LN->Int->Prop} {neg':Bool} {e':Int} {a':OA} {n' c':Nat} {L:LN} {er:Int} (h1:Φ neg' e' L er) (h2:Q2n w0 w' a' n' c' L) (h3:Bw w0 w'):
 Q5i w0 Φ (.returned (.tuple #[.agg #[.bool neg',.int .i64 e',.slice a' n' c'],.int .i64 er])) w':=⟨neg',e',a',n',c',L,er,rfl,h1,h2,h3⟩
theorem Qj0 (s:ByteArray) (w:World) (hs:s.size<=281474976710656) (hTI:Q1s w):
 Calls Tryz.prog 235 #[.string s] w (Q5i w (Q14 s.data.toList)):=by
 have K0:s.data.toList.length=s.size:=rfl;have Z2:Bw w (w.alloc (.cells #[.bool false,.int .i64 0,.slice none 0 0] 26)):=Ba;have Kq:=Q03.new w (.bool false) (.int .i64 0) (.slice none 0 0) 26;have J3:=Q0p w (.cells #[.bool false,.int .i64 0,.slice none 0 0] 26);have HW:=Xh2 Z2 Kq;have HTI:=Ua hTI;have hq:=Qiz s.data.toList;obtain ⟨neg,t,Jf⟩:∃neg t,Q2o s.data.toList=(neg,t):=⟨_,_,rfl⟩;have S5:t.length<=s.size:=by
  have h1:(Q2o s.data.toList).2.length<=s.data.toList.length:=by
   cases s.data.toList with
   |nil=>simp[Q2o]
   |cons x y=>simp only[Q2o];split <;> simp
  rw[Jf] at h1;exact h1
 have O7:form s.data.toList=form s.data.toList:=rfl
 conv at O7=>rhs;unfold form
 rw[Jf] at O7;simp only at O7;have C2:∀W,Calls Tryz.prog 173 #[.string s,.string ⟨#[45]⟩] W fun e w'=>e=.returned (.tuple #[.string ⟨t.toArray⟩,.bool neg])/\W=w':=fun W=>(Tryz.J0v s ⟨#[45]⟩ W).mono (by
  rintro e w' ⟨rfl,rfl⟩;refine ⟨?_,rfl⟩
  show Ending.returned (.tuple #[.string ⟨(Lib.trimPrefix s.data.toList [45]).toArray⟩,.bool (Lib.hasPrefix s.data.toList [45])])=_
  rw[hq.1,hq.2,Jf])
 obtain ⟨T,hT⟩:∃T:ByteArray,T=⟨t.toArray⟩:=⟨_,rfl⟩;have Ja:T.size=t.length:=by rw[hT];rfl
 have R8:T.data.toList=t:=by rw[hT]
 rw[<-hT] at C2;have Q1:=fun W=>Qrh T W (by omega);obtain ⟨k,hk⟩:∃k,digN t=k:=⟨_,rfl⟩;have Qv:=Qch t;have Ku:=Q7h t;rw[hk] at Qv O7 Ku;have HK:=Ua hk;have HT:=Xh2 Ja R8;have HC:=Xh2 C2 Q1;have HFO:=Ua O7;have HTA:=Ua Ku;clear hq Jf O7 C2 Q1 hk hT Z2 Kq hTI K0 Ku
 by_cases h1:k<1
 ·skip;have Kz:(k:Int)<1:=by omega
  have hF:form s.data.toList=none:=by rw[HFO.out,Uu (.inl h1)]
  have HF:=Ua hF;clear hF Ja R8
  go_enter Tryz.func235,Tryz.ntmps235
  go_wp2_with (first
   |(go_at_call_of 173 (Value.string s);refine ((Xo0 HC) _).mono ?_;rintro e w1 ⟨rfl,rfl⟩)
   |(go_at_call_of 267 (Value.string T);refine ((Xe1 HC) _).mono ?_;rintro e w2 ⟨⟨k',rfl,m6⟩,D0⟩;obtain rfl:k=k':=by { rw[<-HK.out,<-(Xe1 HT)];exact Q26 m6 };have P1:=(Xe1 HW).step D0 J3;obtain ⟨u6,C2,A2,u7,j5,Y5⟩:=P1.cf;have K7:=P1.d1 (.bool false);have P7:=P1.d2 (.bool false) (.int .i64 0);have D1:=Xh3 P1 D0 (Below.next0 (Xo0 HW) D0);clear P1 D0 m6))
  obtain ⟨k0,k1,k2,C1⟩:=Q7e (Xo0 D1) (Xe2 D1) (Uf _) (.bool false) (.int .i64 0) (.slice none 0 0);clear u6 C2 A2 u7 j5 Y5 K7 P7;generalize World.setCell _ _ _=W5 at k0 k1 k2 C1⊢;refine ⟨rfl,.tuple #[.agg #[.bool false,.int .i64 0,.slice none 0 0],.int .i64 5],by simp[results,go_sem,k0,k1,k2],Q5i.of (Q14.none_ HF.out) (Q2n.nil_ _ _) C1⟩
 ·have Kz:¬(k:Int)<1:=by omega
  by_cases XR:1300<k
  ·skip;have hk13:(1300:Int)<(k:Int):=(by omega);have hF:form s.data.toList=none:=(by rw[HFO.out,Uu (.inr (.inl XR))]);have HF:=Ua hF;clear hF Ja R8
   go_enter Tryz.func235,Tryz.ntmps235
   go_wp2_with (first
    |(go_at_call_of 173 (Value.string s);refine ((Xo0 HC) _).mono ?_;rintro e w1 ⟨rfl,rfl⟩)
    |(go_at_call_of 267 (Value.string T);refine ((Xe1 HC) _).mono ?_;rintro e w2 ⟨⟨k',rfl,m6⟩,D0⟩;obtain rfl:k=k':=by { rw[<-HK.out,<-(Xe1 HT)];exact Q26 m6 };have P1:=(Xe1 HW).step D0 J3;obtain ⟨u6,C2,A2,u7,j5,Y5⟩:=P1.cf;have K7:=P1.d1 (.bool false);have P7:=P1.d2 (.bool false) (.int .i64 0);have D1:=Xh3 P1 D0 (Below.next0 (Xo0 HW) D0);clear P1 D0 m6))
   obtain ⟨k0,k1,k2,C1⟩:=Q7e (Xo0 D1) (Xe2 D1) (Uf _) (.bool false) (.int .i64 0) (.slice none 0 0);clear u6 C2 A2 u7 j5 Y5 K7 P7;generalize World.setCell _ _ _=W5 at k0 k1 k2 C1⊢;refine ⟨rfl,.tuple #[.agg #[.bool false,.int .i64 0,.slice none 0 0],.int .i64 5],by simp[results,go_sem,k0,k1,k2],Q5i.of (Q14.none_ HF.out) (Q2n.nil_ _ _) C1⟩
  ·have hk13:¬(1300:Int)<(k:Int):=(by omega);have W7:0<T.size:=(by omega);have QJ:t.headD 0=(T[0]'W7):=by
    have h:=Qri (s:=T) (at_:=0) W7;rw[Xba,(Xe1 HT)] at h;exact h
   have HHD:=Ua QJ;clear QJ
   by_cases hz:(T[0]'W7)=48/\(neg=true∨1<t.length)
   ·obtain ⟨m8,X1⟩:=hz;have Zt:(((T[0]'W7).toNat:Int)==48)=true:=(by rw[m8];rfl);cases neg
    ·have h1l:1<t.length:=by rcases X1 with h|h;cases h;exact h
     have h1I:(1:Int)<(T.size:Int):=(by omega);have hF:form s.data.toList=none:=(by rw[HFO.out,Uu (.inr (.inr ⟨by rw[HHD.out];exact m8,.inr h1l⟩))]);have HF:=Ua hF;clear hF Ja R8 m8 X1
     go_enter Tryz.func235,Tryz.ntmps235
     go_wp2_with (first
      |(go_at_call_of 173 (Value.string s);refine ((Xo0 HC) _).mono ?_;rintro e w1 ⟨rfl,rfl⟩)
      |(go_at_call_of 267 (Value.string T);refine ((Xe1 HC) _).mono ?_;rintro e w2 ⟨⟨k',rfl,m6⟩,D0⟩;obtain rfl:k=k':=by { rw[<-HK.out,<-(Xe1 HT)];exact Q26 m6 };have P1:=(Xe1 HW).step D0 J3;obtain ⟨u6,C2,A2,u7,j5,Y5⟩:=P1.cf;have K7:=P1.d1 (.bool false);have P7:=P1.d2 (.bool false) (.int .i64 0);have D1:=Xh3 P1 D0 (Below.next0 (Xo0 HW) D0);clear P1 D0 m6))
     obtain ⟨k0,k1,k2,C1⟩:=Q7e (Xo0 D1) (Xe2 D1) (Uf _) (.bool false) (.int .i64 0) (.slice none 0 0);clear u6 C2 A2 u7 j5 Y5 K7 P7;generalize World.setCell _ _ _=W5 at k0 k1 k2 C1⊢;refine ⟨rfl,.tuple #[.agg #[.bool false,.int .i64 0,.slice none 0 0],.int .i64 5],by simp[results,go_sem,k0,k1,k2],Q5i.of (Q14.none_ HF.out) (Q2n.nil_ _ _) C1⟩
    ·skip;have hF:form s.data.toList=none:=(by rw[HFO.out,Uu (.inr (.inr ⟨by rw[HHD.out];exact m8,.inl rfl⟩))]);have HF:=Ua hF;clear hF Ja R8 m8 X1
     go_enter Tryz.func235,Tryz.ntmps235
     go_wp2_with (first
      |(go_at_call_of 173 (Value.string s);refine ((Xo0 HC) _).mono ?_;rintro e w1 ⟨rfl,rfl⟩)
      |(go_at_call_of 267 (Value.string T);refine ((Xe1 HC) _).mono ?_;rintro e w2 ⟨⟨k',rfl,m6⟩,D0⟩;obtain rfl:k=k':=by { rw[<-HK.out,<-(Xe1 HT)];exact Q26 m6 };have P1:=(Xe1 HW).step D0 J3;obtain ⟨u6,C2,A2,u7,j5,Y5⟩:=P1.cf;have K7:=P1.d1 (.bool false);have P7:=P1.d2 (.bool false) (.int .i64 0);have D1:=Xh3 P1 D0 (Below.next0 (Xo0 HW) D0);clear P1 D0 m6))
     obtain ⟨k0,k1,k2,C1⟩:=Q7e (Xo0 D1) (Xe2 D1) (Uf _) (.bool false) (.int .i64 0) (.slice none 0 0);clear u6 C2 A2 u7 j5 Y5 K7 P7;generalize World.setCell _ _ _=W5 at k0 k1 k2 C1⊢;refine ⟨rfl,.tuple #[.agg #[.bool false,.int .i64 0,.slice none 0 0],.int .i64 5],by simp[results,go_sem,k0,k1,k2],Q5i.of (Q14.none_ HF.out) (Q2n.nil_ _ _) C1⟩
   ·have O7:=HFO.out;rw[Us (by rintro (h|h|h);exact h1 h;exact XR h;(rw[HHD.out] at h;exact hz h))] at O7;obtain ⟨u,hu⟩:∃u:ByteArray,T.extract 0 k=u:=⟨_,rfl⟩;obtain ⟨rest,x5⟩:∃r:ByteArray,T.extract k T.size=r:=⟨_,rfl⟩;have Vg:u.data.toList=t.take k:=(by rw[<-hu,Qn0,(Xe1 HT)]);have Zn:rest.data.toList=t.drop k:=(by rw[<-x5,Qn1,(Xe1 HT)]);have YS:u.size=k:=by
     have:u.data.toList.length=u.size:=rfl;rw[<-this,Vg,UW];omega
    have XV:rest.size<=T.size:=by
     have:rest.data.toList.length=rest.size:=rfl;rw[<-this,Zn,Tu];omega
    rw[<-Vg,<-Zn] at O7;have hau:Qk4 u.data.toList:=(by rw[Vg];exact HTA.out);have z8:=fun W=>Qs8 rest W (by omega);have Yy:=fun W=>Qs6 u W (by omega) hau;have ZD:(dig (2^64) (dv u.data.toList)).length<=1300:=by
     have h:=Q2q (B:=2^64) (by decide) (Ue (Qhs u.data.toList hau) (Xbj (by decide) u.data.toList.length));have:u.data.toList.length=u.size:=rfl;omega
    have HP:=Xh4 z8 Yy O7 ZD;have HZ:=Ua hz;clear z8 Yy O7 ZD hau Vg Zn XV YS hz HFO;have XL:=(Xo2 HP);have hkT:(k:Int)<=(T.size:Int):=(by omega);cases d6:Qea rest.data.toList with
    |none=>
     have z8:∀W,Calls Tryz.prog 268 #[.string rest] W fun e w'=>∃x:Int,e=.returned (.tuple #[.int .i64 x,.bool false])/\Bw W w':=fun W=>((Xo0 HP) W).mono (by
      rintro e w' ⟨⟨x,ok,rfl,⟨_,h,_⟩|⟨rfl,_⟩⟩,hb⟩
      ·rw[d6] at h;cases h
      ·exact ⟨x,rfl,hb⟩)
     rw[d6] at XL;have HPW:=Ua z8;have HF:=Ua (show form s.data.toList=none from XL);clear z8 XL d6
     by_cases m8:(T[0]'W7)=48
     ·have Zt:(((T[0]'W7).toNat:Int)==48)=true:=(by rw[m8];rfl);obtain rfl:neg=false:=by
       cases neg
       ·rfl
       ·exact absurd ⟨m8,.inl rfl⟩ HZ.out
      have h1I:¬(1:Int)<(T.size:Int):=fun h=>HZ.out ⟨m8,.inr (by omega)⟩;clear m8 Ja R8
      go_enter Tryz.func235,Tryz.ntmps235
      go_wp2_with (first
       |(go_at_call_of 173 (Value.string s);refine ((Xo0 HC) _).mono ?_;rintro e w1 ⟨rfl,rfl⟩)
       |(go_at_call_of 267 (Value.string T);refine ((Xe1 HC) _).mono ?_;rintro e w2 ⟨⟨k',rfl,m6⟩,D0⟩;obtain rfl:k=k':=by { rw[<-HK.out,<-(Xe1 HT)];exact Q26 m6 };have D1:=Ua D0;clear D0 m6)
       |(refine (HPW.out _).mono ?_;rintro e w3 ⟨x,rfl,I0⟩;have K1:=Below.next0 D1.out I0;have P1:=(Xe1 HW).step K1 J3;obtain ⟨u6,C2,A2,u7,j5,Y5⟩:=P1.cf;have K7:=P1.d1 (.bool false);have P7:=P1.d2 (.bool false) (.int .i64 0);have A3:=Xh2 P1 (Below.next0 (Xo0 HW) K1);clear P1 I0 K1))
      obtain ⟨k0,k1,k2,C1⟩:=Q7e (Xo0 A3) (Xe1 A3) (Uf _) (.bool false) (.int .i64 0) (.slice none 0 0);clear u6 C2 A2 u7 j5 Y5 K7 P7;generalize World.setCell _ _ _=W5 at k0 k1 k2 C1⊢;refine ⟨rfl,.tuple #[.agg #[.bool false,.int .i64 0,.slice none 0 0],.int .i64 5],by simp[results,go_sem,k0,k1,k2],Q5i.of (Q14.none_ HF.out) (Q2n.nil_ _ _) C1⟩
     ·have Zt:(((T[0]'W7).toNat:Int)==48)=false:=(by rw[Uj];intro e;exact m8 (Xa1.1 (show (T[0]'W7).toNat=48 by omega)));clear m8 Ja R8
      go_enter Tryz.func235,Tryz.ntmps235
      go_wp2_with (first
       |(go_at_call_of 173 (Value.string s);refine ((Xo0 HC) _).mono ?_;rintro e w1 ⟨rfl,rfl⟩)
       |(go_at_call_of 267 (Value.string T);refine ((Xe1 HC) _).mono ?_;rintro e w2 ⟨⟨k',rfl,m6⟩,D0⟩;obtain rfl:k=k':=by { rw[<-HK.out,<-(Xe1 HT)];exact Q26 m6 };have D1:=Ua D0;clear D0 m6)
       |(refine (HPW.out _).mono ?_;rintro e w3 ⟨x,rfl,I0⟩;have K1:=Below.next0 D1.out I0;have P1:=(Xe1 HW).step K1 J3;obtain ⟨u6,C2,A2,u7,j5,Y5⟩:=P1.cf;have K7:=P1.d1 (.bool false);have P7:=P1.d2 (.bool false) (.int .i64 0);have A3:=Xh2 P1 (Below.next0 (Xo0 HW) K1);clear P1 I0 K1))
      obtain ⟨k0,k1,k2,C1⟩:=Q7e (Xo0 A3) (Xe1 A3) (Uf _) (.bool false) (.int .i64 0) (.slice none 0 0);clear u6 C2 A2 u7 j5 Y5 K7 P7;generalize World.setCell _ _ _=W5 at k0 k1 k2 C1⊢;refine ⟨rfl,.tuple #[.agg #[.bool false,.int .i64 0,.slice none 0 0],.int .i64 5],by simp[results,go_sem,k0,k1,k2],Q5i.of (Q14.none_ HF.out) (Q2n.nil_ _ _) C1⟩
    |some ex=>
     have hexb: -1000000<=ex/\ex<=1000000:=by
      have h:=Qow rest.data.toList ex d6;exact h
     obtain ⟨hex1,hex2⟩:=hexb;have z8:∀W,Calls Tryz.prog 268 #[.string rest] W fun e w'=>e=.returned (.tuple #[.int .i64 ex,.bool true])/\Bw W w':=fun W=>((Xo0 HP) W).mono (by
      rintro e w' ⟨⟨x,ok,rfl,⟨rfl,h,_⟩|⟨_,h⟩⟩,hb⟩
      ·rw[d6] at h;injection h with h;subst h;exact ⟨rfl,hb⟩
      ·rw[d6] at h;cases h)
     rw[d6] at XL;have HPW:=Ua z8;have HF:=Ua (show form s.data.toList=some (neg,dv u.data.toList,ex) from XL);clear z8 XL d6
     by_cases m8:(T[0]'W7)=48
     ·have Zt:(((T[0]'W7).toNat:Int)==48)=true:=(by rw[m8];rfl);obtain rfl:neg=false:=by
       cases neg
       ·rfl
       ·exact absurd ⟨m8,.inl rfl⟩ HZ.out
      have h1I:¬(1:Int)<(T.size:Int):=fun h=>HZ.out ⟨m8,.inr (by omega)⟩;clear m8 Ja R8
      go_enter Tryz.func235,Tryz.ntmps235
      go_wp2_with (first
       |(go_at_call_of 173 (Value.string s);refine ((Xo0 HC) _).mono ?_;rintro e w1 ⟨rfl,rfl⟩)
       |(go_at_call_of 267 (Value.string T);refine ((Xe1 HC) _).mono ?_;rintro e w2 ⟨⟨k',rfl,m6⟩,D0⟩;obtain rfl:k=k':=by { rw[<-HK.out,<-(Xe1 HT)];exact Q26 m6 };have D1:=Ua D0;clear D0 m6)
       |(go_at_call_of 268 (Value.string rest);refine (HPW.out _).mono ?_;rintro e w3 ⟨rfl,I0⟩;have A3:=Ua (Below.next0 D1.out I0);clear I0)
       |(go_at_call_of 269 (Value.string u);refine ((Xo1 HP) _).mono ?_;rintro e w4 ⟨a4,n4,c4,rfl,y9,N1⟩;have X4:=Xh2 y9 (Below.next0 A3.out N1);clear y9 N1)
       |(refine (Q53 false a4 n4 c4 _ ex w4 (Xo0 X4) (HTI.out.step (Below.next0 (Xo0 HW) (Xe1 X4))) (by rw[<-(Xo0 X4).len];exact Ul (Xe3 HP) (by decide)) (by omega) (by omega)).mono ?_;rintro e w5 ⟨neg5,e5,a5,n5,c5,L,er,rfl,m7,u9,C1⟩;rw[Q0s (by decide)] at m7;have K1:=Below.next0 (Xe1 X4) C1;have P1:=(Xe1 HW).step K1 J3;obtain ⟨u6,C2,A2,u7,j5,Y5⟩:=P1.cf;have K7:=P1.d1 (.bool neg5);have P7:=P1.d2 (.bool neg5) (.int .i64 e5);have M3:=Xh4 P1 (Below.next0 (Xo0 HW) K1) u9 m7;clear P1 C1 K1 u9 m7))
      obtain ⟨k0,k1,k2,F4⟩:=Q7e (Xo0 M3) (Xo1 M3) (Uf _) (.bool neg5) (.int .i64 e5) (.slice a5 n5 c5);have Zl:=(Xo2 M3);have hW6:WordsIn _ a5 n5 c5 L:=⟨Zl.len,Zl.cap,Zl.most,Zl.low,(Zl.rd.store3 (Xo0 M3) (fun _=>by simp[nv]) (fun _=>by simp[nv]) (fun _=>by simp[nv]) (.bool neg5) (.int .i64 e5) (.slice a5 n5 c5)).more (Q3i _ _ _ _ _)⟩;clear u6 C2 A2 u7 j5 Y5 K7 P7 Zl;generalize World.setCell _ _ _=W5 at k0 k1 k2 F4 hW6⊢;refine ⟨rfl,.tuple #[.agg #[.bool neg5,.int .i64 e5,.slice a5 n5 c5],.int .i64 er],by simp[results,go_sem,k0,k1,k2],Q5i.of (Q14.some_ HF.out (Xe3 M3)) (((Xo2 M3).lower (Below.next0 (Xo0 HW) (Xe1 X4)).size).on hW6) F4⟩
     ·have Zt:(((T[0]'W7).toNat:Int)==48)=false:=(by rw[Uj];intro e;exact m8 (Xa1.1 (show (T[0]'W7).toNat=48 by omega)));clear m8 Ja R8
      go_enter Tryz.func235,Tryz.ntmps235
      go_wp2_with (first
       |(go_at_call_of 173 (Value.string s);refine ((Xo0 HC) _).mono ?_;rintro e w1 ⟨rfl,rfl⟩)
       |(go_at_call_of 267 (Value.string T);refine ((Xe1 HC) _).mono ?_;rintro e w2 ⟨⟨k',rfl,m6⟩,D0⟩;obtain rfl:k=k':=by { rw[<-HK.out,<-(Xe1 HT)];exact Q26 m6 };have D1:=Ua D0;clear D0 m6)
       |(go_at_call_of 268 (Value.string rest);refine (HPW.out _).mono ?_;rintro e w3 ⟨rfl,I0⟩;have A3:=Ua (Below.next0 D1.out I0);clear I0)
       |(go_at_call_of 269 (Value.string u);refine ((Xo1 HP) _).mono ?_;rintro e w4 ⟨a4,n4,c4,rfl,y9,N1⟩;have X4:=Xh2 y9 (Below.next0 A3.out N1);clear y9 N1)
       |(refine (Q53 neg a4 n4 c4 _ ex w4 (Xo0 X4) (HTI.out.step (Below.next0 (Xo0 HW) (Xe1 X4))) (by rw[<-(Xo0 X4).len];exact Ul (Xe3 HP) (by decide)) (by omega) (by omega)).mono ?_;rintro e w5 ⟨neg5,e5,a5,n5,c5,L,er,rfl,m7,u9,C1⟩;rw[Q0s (by decide)] at m7;have K1:=Below.next0 (Xe1 X4) C1;have P1:=(Xe1 HW).step K1 J3;obtain ⟨u6,C2,A2,u7,j5,Y5⟩:=P1.cf;have K7:=P1.d1 (.bool neg5);have P7:=P1.d2 (.bool neg5) (.int .i64 e5);have M3:=Xh4 P1 (Below.next0 (Xo0 HW) K1) u9 m7;clear P1 C1 K1 u9 m7))
      obtain ⟨k0,k1,k2,F4⟩:=Q7e (Xo0 M3) (Xo1 M3) (Uf _) (.bool neg5) (.int .i64 e5) (.slice a5 n5 c5);have Zl:=(Xo2 M3);have hW6:WordsIn _ a5 n5 c5 L:=⟨Zl.len,Zl.cap,Zl.most,Zl.low,(Zl.rd.store3 (Xo0 M3) (fun _=>by simp[nv]) (fun _=>by simp[nv]) (fun _=>by simp[nv]) (.bool neg5) (.int .i64 e5) (.slice a5 n5 c5)).more (Q3i _ _ _ _ _)⟩;clear u6 C2 A2 u7 j5 Y5 K7 P7 Zl;generalize World.setCell _ _ _=W5 at k0 k1 k2 F4 hW6⊢;refine ⟨rfl,.tuple #[.agg #[.bool neg5,.int .i64 e5,.slice a5 n5 c5],.int .i64 er],by simp[results,go_sem,k0,k1,k2],Q5i.of (Q14.some_ HF.out (Xe3 M3)) (((Xo2 M3).lower (Below.next0 (Xo0 HW) (Xe1 X4)).size).on hW6) F4⟩
end Go.Proofs.YtidojbkhlenahaaGreatDoor
