/- Part 20 of the proof of LawParseBuilt: RdrF, PolyL, Sort, Sorted. Condition: as each theorem says; none at the end. -/
import Derived.Shelf.SlSortCmp.WholeK
import Derived.Ground.SlsfProg
import Derived.Shelf.SlSortCmp.NoneTotal
import Derived.Test.YtdilmfakkppgpaaGreatDoorPkParseBuilt19
set_option maxRecDepth 100000
set_option maxHeartbeats 16000000
namespace Go.Proofs.YtdilmfakkppgpaaGreatDoor
open Go.RowKit WordsM DecM
def fpX (b:Nat) (a a2:OA) (k:Nat):Prop:=k<=b∨(∃x,a=some x/\x.block=k)∨∃x,a2=some x/\x.block=k
theorem Qhu {w:World} {B B':Nat} {T T':TypeId} {a a2:OA} {n c n2 c2:Nat} {vs us:LV} (h:Row w B T 1 a n c vs) (h2:Row w B' T' 1 a2 n2 c2 us) (hT:T≠T') {x y:Addr} (hx:a=some x) (hy:a2=some y) (e:x.block=y.block):False:=by
 rcases h.form with ⟨h0,_⟩|⟨g,cur,h0,_,_,hh,_⟩
 ·rw[h0] at hx;cases hx
 rcases h2.form with ⟨Wr,_⟩|⟨g2,cur2,Wr,_,_,hh2,_⟩
 ·rw[Wr] at hy;cases hy
 rw[h0] at hx;injection hx with hx;subst hx
 rw[Wr] at hy;injection hy with hy;subst hy
 have e:g=g2:=e;subst e;rw[hh] at hh2;injection hh2 with hh2;injection hh2 with _ e2;exact hT e2
theorem ff {x:Bool} {q:Prop} (h:x=false) (h2:x=true):q:=by rw[h] at h2;cases h2
theorem tf {q:Prop} (h:true=false):q:=by cases h
theorem tf2 {q:Prop} (h:false=true):q:=by cases h
theorem Qns {fp:Nat->Prop} {w w':World} (h:Q0f fp w w'):Q0f fp w w'.drew:=h.drew
structure EI (R:Nat) (s:ByteArray) (m d:Int) (w wr:World) (a:OA) (n c:Nat) (a2:OA) (c2:Nat) (below:Bool) (acc:List (Bool × Ex)) (vs:LV) (p:Nat) (bd:Bool) (r0:PR Ex) (N:Nat) (D:Nat->Bool) (V:Nat->Value) (W:World):Prop where
 st:R<w.heap.size/\w.heap.size<wr.heap.size/\(∀x,a=some x->w.heap.size+1<=x.block/\x.block<wr.heap.size)/\(∀x,a2=some x->w.heap.size+1<=x.block/\x.block<wr.heap.size)
 turn:Q0f (OnR R) w W
 big:wr.heap.size<=W.heap.size
 c0:D 12=false->W.cell? ⟨w.heap.size,0,none⟩=some (.slice a n c)
 c0':D 12=true->W.cell? ⟨w.heap.size,0,none⟩=some (V 5)
 c1:D 14=false->W.cell? ⟨w.heap.size,1,none⟩=some (.slice a2 n c2)
 c1':D 14=true->W.cell? ⟨w.heap.size,1,none⟩=some (V 10)
 f0:W.frozen? ⟨w.heap.size,0,none⟩=false
 f1:W.frozen? ⟨w.heap.size,1,none⟩=false
 rd:D 3=false->Q0q W R s (p:Int) m d bd
 nd:D 3=true->(wr.heap.size<=N/\N<=W.heap.size)/\∃t u,V 3=.iface t u/\match r0 with
  | .ok (x,q)=>Q2v (fun k=>k<wr.heap.size∨N<=k) W x (V 3)/\Q0q W R s (q:Int) m d false/\q<=s.size
  | .error q=>Q0q W R s (q:Int) m d true/\q<=s.size
 v0:D 0=true->V 0=.pointer (some ⟨w.heap.size,0,none⟩)
 v1:D 1=true->V 1=.slice a n c
 v2:D 2=true->V 2=.pointer (some ⟨R,0,none⟩)
 v4:D 4=true->∃h,V 4=.slice (some ⟨h,0,none⟩) 1 1/\wr.heap.size<=h/\W.heap[h]?=some (.cells #[V 3] 82 (0,0))
 v6:D 6=true->V 6=.pointer (some ⟨w.heap.size,1,none⟩)
 v7:D 7=true->V 7=.slice a2 n c2
 v8:D 8=true->V 8=.bool below
 v9:D 9=true->∃h,V 9=.slice (some ⟨h,0,none⟩) 1 1/\wr.heap.size<=h/\W.heap[h]?=some (.cells #[.bool below] 4 (0,0))
 v11:D 11=true->V 11=.pointer (some ⟨w.heap.size,0,none⟩)
 v13:D 13=true->V 13=.pointer (some ⟨w.heap.size,1,none⟩)
 ra:D 5=false->Row W (w.heap.size+1) 82 1 a n c vs
 ra':D 5=true->∃g cap,V 5=.slice (some ⟨g,0,none⟩) (n+1) cap/\Row W (w.heap.size+1) 82 1 (some ⟨g,0,none⟩) (n+1) cap (vs++[V 3])/\((∃x,a=some x/\x.block=g)∨N<=g)
 rb:D 10=false->Row W (w.heap.size+1) 4 1 a2 n c2 (acc.map fun z=>Value.bool z.1)
 rb':D 10=true->∃g cap,V 10=.slice (some ⟨g,0,none⟩) (n+1) cap/\Row W (w.heap.size+1) 4 1 (some ⟨g,0,none⟩) (n+1) cap (acc.map (fun z=>Value.bool z.1)++[.bool below])/\((∃x,a2=some x/\x.block=g)∨N<=g)
 nodes:Q1b (fun k=>fpX w.heap.size a a2 k∨wr.heap.size<=k) W (acc.map (·.2)) vs
section
variable {R:Nat} {s:ByteArray} {m d:Int} {w wr:World} {a:OA} {n c:Nat} {a2:OA} {c2:Nat} {below:Bool} {acc:List (Bool × Ex)} {vs:LV} {p:Nat} {bd:Bool} {r0:PR Ex} {N:Nat} {D:Nat->Bool} {V:Nat->Value} {W W':World}
theorem EI.s0 (h:EI R s m d w wr a n c a2 c2 below acc vs p bd r0 N D V W):EI R s m d w wr a n c a2 c2 below acc vs p bd r0 N (Q3q D 0) (Q3b V 0 (.pointer (some ⟨w.heap.size,0,none⟩))) W:=⟨h.st,h.turn,h.big,h.c0,h.c0',h.c1,h.c1',h.f0,h.f1,h.rd,h.nd,(fun _=>rfl),h.v1,h.v2,h.v4,h.v6,h.v7,h.v8,h.v9,h.v11,h.v13,h.ra,h.ra',h.rb,h.rb',h.nodes⟩
theorem EI.s1 (h:EI R s m d w wr a n c a2 c2 below acc vs p bd r0 N D V W):EI R s m d w wr a n c a2 c2 below acc vs p bd r0 N (Q3q D 1) (Q3b V 1 (.slice a n c)) W:=⟨h.st,h.turn,h.big,h.c0,h.c0',h.c1,h.c1',h.f0,h.f1,h.rd,h.nd,h.v0,(fun _=>rfl),h.v2,h.v4,h.v6,h.v7,h.v8,h.v9,h.v11,h.v13,h.ra,h.ra',h.rb,h.rb',h.nodes⟩
theorem EI.s2 (h:EI R s m d w wr a n c a2 c2 below acc vs p bd r0 N D V W):EI R s m d w wr a n c a2 c2 below acc vs p bd r0 N (Q3q D 2) (Q3b V 2 (.pointer (some ⟨R,0,none⟩))) W:=⟨h.st,h.turn,h.big,h.c0,h.c0',h.c1,h.c1',h.f0,h.f1,h.rd,h.nd,h.v0,h.v1,(fun _=>rfl),h.v4,h.v6,h.v7,h.v8,h.v9,h.v11,h.v13,h.ra,h.ra',h.rb,h.rb',h.nodes⟩
theorem EI.s6 (h:EI R s m d w wr a n c a2 c2 below acc vs p bd r0 N D V W):EI R s m d w wr a n c a2 c2 below acc vs p bd r0 N (Q3q D 6) (Q3b V 6 (.pointer (some ⟨w.heap.size,1,none⟩))) W:=⟨h.st,h.turn,h.big,h.c0,h.c0',h.c1,h.c1',h.f0,h.f1,h.rd,h.nd,h.v0,h.v1,h.v2,h.v4,(fun _=>rfl),h.v7,h.v8,h.v9,h.v11,h.v13,h.ra,h.ra',h.rb,h.rb',h.nodes⟩
theorem EI.s7 (h:EI R s m d w wr a n c a2 c2 below acc vs p bd r0 N D V W):EI R s m d w wr a n c a2 c2 below acc vs p bd r0 N (Q3q D 7) (Q3b V 7 (.slice a2 n c2)) W:=⟨h.st,h.turn,h.big,h.c0,h.c0',h.c1,h.c1',h.f0,h.f1,h.rd,h.nd,h.v0,h.v1,h.v2,h.v4,h.v6,(fun _=>rfl),h.v8,h.v9,h.v11,h.v13,h.ra,h.ra',h.rb,h.rb',h.nodes⟩
theorem EI.s8 (h:EI R s m d w wr a n c a2 c2 below acc vs p bd r0 N D V W):EI R s m d w wr a n c a2 c2 below acc vs p bd r0 N (Q3q D 8) (Q3b V 8 (.bool below)) W:=⟨h.st,h.turn,h.big,h.c0,h.c0',h.c1,h.c1',h.f0,h.f1,h.rd,h.nd,h.v0,h.v1,h.v2,h.v4,h.v6,h.v7,(fun _=>rfl),h.v9,h.v11,h.v13,h.ra,h.ra',h.rb,h.rb',h.nodes⟩
theorem EI.s11 (h:EI R s m d w wr a n c a2 c2 below acc vs p bd r0 N D V W):EI R s m d w wr a n c a2 c2 below acc vs p bd r0 N (Q3q D 11) (Q3b V 11 (.pointer (some ⟨w.heap.size,0,none⟩))) W:=⟨h.st,h.turn,h.big,h.c0,h.c0',h.c1,h.c1',h.f0,h.f1,h.rd,h.nd,h.v0,h.v1,h.v2,h.v4,h.v6,h.v7,h.v8,h.v9,(fun _=>rfl),h.v13,h.ra,h.ra',h.rb,h.rb',h.nodes⟩
theorem EI.s13 (h:EI R s m d w wr a n c a2 c2 below acc vs p bd r0 N D V W):EI R s m d w wr a n c a2 c2 below acc vs p bd r0 N (Q3q D 13) (Q3b V 13 (.pointer (some ⟨w.heap.size,1,none⟩))) W:=⟨h.st,h.turn,h.big,h.c0,h.c0',h.c1,h.c1',h.f0,h.f1,h.rd,h.nd,h.v0,h.v1,h.v2,h.v4,h.v6,h.v7,h.v8,h.v9,h.v11,(fun _=>rfl),h.ra,h.ra',h.rb,h.rb',h.nodes⟩
theorem EI.drop {k:Nat} (hk:k=12∨k=14) {v:Value} (h:EI R s m d w wr a n c a2 c2 below acc vs p bd r0 N D (Q3b V k v) W):EI R s m d w wr a n c a2 c2 below acc vs p bd r0 N D V W:=by
 rcases hk with rfl|rfl
 ·exact ⟨h.st,h.turn,h.big,h.c0,h.c0',h.c1,h.c1',h.f0,h.f1,h.rd,h.nd,h.v0,h.v1,h.v2,h.v4,h.v6,h.v7,h.v8,h.v9,h.v11,h.v13,h.ra,h.ra',h.rb,h.rb',h.nodes⟩
 ·exact ⟨h.st,h.turn,h.big,h.c0,h.c0',h.c1,h.c1',h.f0,h.f1,h.rd,h.nd,h.v0,h.v1,h.v2,h.v4,h.v6,h.v7,h.v8,h.v9,h.v11,h.v13,h.ra,h.ra',h.rb,h.rb',h.nodes⟩
theorem EI.s3 (h:EI R s m d w wr a n c a2 c2 below acc vs p bd r0 N D V W) (d4:D 4=false) (d5:D 5=false) (d10:D 10=false) (d12:D 12=false) (d14:D 14=false) {t:TypeId} {u:Value} (hN:Q6p R s m d r0 W (.returned (.iface t u)) W'):
 EI R s m d w wr a n c a2 c2 below acc vs p bd r0 W'.heap.size (Q3q D 3) (Q3b V 3 (.iface t u)) W':=by
 obtain ⟨hR,B0,ha,Zp⟩:=h.st;obtain ⟨t',u',he,ht,h2⟩:=hN;injection he with he;injection he with e1 e2;subst e1;subst e2;have o7:w.heap.size<W.heap.size:=Ue B0 h.big;have hbR:¬OnR R w.heap.size:=fun (e:w.heap.size=R)=>by omega
 have e0:=ht.cell (p:=⟨w.heap.size,0,none⟩) o7 hbR;have e1:=ht.cell (p:=⟨w.heap.size,1,none⟩) o7 hbR;exact ⟨h.st,(h.turn.trans0 ht),(Ur h.big ht.size),(fun hd=>e0.trans (h.c0 hd)),(fun hd=>ff d12 hd),(fun hd=>e1.trans (h.c1 hd)),(fun hd=>ff d14 hd),((ht.frozen (p:=⟨w.heap.size,0,none⟩) o7 hbR).trans h.f0),((ht.frozen (p:=⟨w.heap.size,1,none⟩) o7 hbR).trans h.f1),(fun hd=>tf hd),(fun _=>⟨⟨Ur h.big ht.size,Ug _⟩,t,u,rfl,by
  cases r0 with
  |error q=>exact h2
  |ok z=>exact ⟨h2.1.more (fun k hk=>hk.imp (fun h1=>Ue h1 h.big) id),h2.2⟩⟩),h.v0,h.v1,h.v2,(fun hd=>ff d4 hd),h.v6,h.v7,h.v8,(fun hd=>by
  obtain ⟨b9,q1,q2,q3⟩:=h.v9 hd;exact ⟨b9,q1,q2,(ht.block b9 (Uv.1 q3).1 (fun (e:b9=R)=>by omega)).trans q3⟩),h.v11,h.v13,(fun hd=>(h.ra hd).turn ht (fun x hx (e:x.block=R)=>by have:=ha x hx;omega)),(fun hd=>ff d5 hd),(fun hd=>(h.rb hd).turn ht (fun x hx (e:x.block=R)=>by have:=Zp x hx;omega)),(fun hd=>ff d10 hd),(h.nodes.turn ht (fun k (hk:k=R)=>.inl (.inl (by omega))))⟩
theorem EI.s4 (h:EI R s m d w wr a n c a2 c2 below acc vs p bd r0 N D V W):EI R s m d w wr a n c a2 c2 below acc vs p bd r0 N (Q3q D 4) (Q3b V 4 (.slice (some ⟨W.heap.size,0,none⟩) 1 1)) (W.alloc (.cells #[V 3] 82)):=by
 obtain ⟨hR,B0,ha,Zp⟩:=h.st;have o7:w.heap.size<W.heap.size:=Ue B0 h.big;have hb:Bw W (W.alloc (.cells #[V 3] 82)):=Ba;have e0:=hb.cell (p:=⟨w.heap.size,0,none⟩) o7;have e1:=hb.cell (p:=⟨w.heap.size,1,none⟩) o7;exact ⟨h.st,(h.turn.trans0 (Q0f.of_below hb _)),(Ur h.big hb.size),(fun hd=>e0.trans (h.c0 hd)),(fun hd=>e0.trans (h.c0' hd)),(fun hd=>e1.trans (h.c1 hd)),(fun hd=>e1.trans (h.c1' hd)),((hb.frozen (p:=⟨w.heap.size,0,none⟩) o7).trans h.f0),((hb.frozen (p:=⟨w.heap.size,1,none⟩) o7).trans h.f1),(fun hd=>(h.rd hd).step hb),(fun hd=>by
  obtain ⟨q0,t,u,q1,q2⟩:=h.nd hd;refine ⟨⟨q0.1,Ur q0.2 hb.size⟩,t,u,q1,?_⟩;cases r0 with
  |error q=>exact ⟨q2.1.step hb,q2.2⟩
  |ok z=>exact ⟨q2.1.step hb,q2.2.1.step hb,q2.2.2⟩),h.v0,h.v1,h.v2,(fun _=>⟨W.heap.size,rfl,h.big,Ul _ _⟩),h.v6,h.v7,h.v8,(fun hd=>by
  obtain ⟨b9,q1,q2,q3⟩:=h.v9 hd;exact ⟨b9,q1,q2,(hb.block b9 (Uv.1 q3).1).trans q3⟩),h.v11,h.v13,(fun hd=>(h.ra hd).call hb),(fun hd=>by
  obtain ⟨g,cap,q1,q2,q3⟩:=h.ra' hd;exact ⟨g,cap,q1,q2.call hb,q3⟩),(fun hd=>(h.rb hd).call hb),(fun hd=>by
  obtain ⟨g,cap,q1,q2,q3⟩:=h.rb' hd;exact ⟨g,cap,q1,q2.call hb,q3⟩),(h.nodes.turn (Q0f.of_below hb fun _=>False) (fun _ h=>h.elim))⟩
theorem EI.s9 (h:EI R s m d w wr a n c a2 c2 below acc vs p bd r0 N D V W):EI R s m d w wr a n c a2 c2 below acc vs p bd r0 N (Q3q D 9) (Q3b V 9 (.slice (some ⟨W.heap.size,0,none⟩) 1 1)) (W.alloc (.cells #[.bool below] 4)):=by
 obtain ⟨hR,B0,ha,Zp⟩:=h.st;have o7:w.heap.size<W.heap.size:=Ue B0 h.big;have hb:Bw W (W.alloc (.cells #[.bool below] 4)):=Ba;have e0:=hb.cell (p:=⟨w.heap.size,0,none⟩) o7;have e1:=hb.cell (p:=⟨w.heap.size,1,none⟩) o7;exact ⟨h.st,(h.turn.trans0 (Q0f.of_below hb _)),(Ur h.big hb.size),(fun hd=>e0.trans (h.c0 hd)),(fun hd=>e0.trans (h.c0' hd)),(fun hd=>e1.trans (h.c1 hd)),(fun hd=>e1.trans (h.c1' hd)),((hb.frozen (p:=⟨w.heap.size,0,none⟩) o7).trans h.f0),((hb.frozen (p:=⟨w.heap.size,1,none⟩) o7).trans h.f1),(fun hd=>(h.rd hd).step hb),(fun hd=>by
  obtain ⟨q0,t,u,q1,q2⟩:=h.nd hd;refine ⟨⟨q0.1,Ur q0.2 hb.size⟩,t,u,q1,?_⟩;cases r0 with
  |error q=>exact ⟨q2.1.step hb,q2.2⟩
  |ok z=>exact ⟨q2.1.step hb,q2.2.1.step hb,q2.2.2⟩),h.v0,h.v1,h.v2,(fun hd=>by
  obtain ⟨b9,q1,q2,q3⟩:=h.v4 hd;exact ⟨b9,q1,q2,(hb.block b9 (Uv.1 q3).1).trans q3⟩),h.v6,h.v7,h.v8,(fun _=>⟨W.heap.size,rfl,h.big,Ul _ _⟩),h.v11,h.v13,(fun hd=>(h.ra hd).call hb),(fun hd=>by
  obtain ⟨g,cap,q1,q2,q3⟩:=h.ra' hd;exact ⟨g,cap,q1,q2.call hb,q3⟩),(fun hd=>(h.rb hd).call hb),(fun hd=>by
  obtain ⟨g,cap,q1,q2,q3⟩:=h.rb' hd;exact ⟨g,cap,q1,q2.call hb,q3⟩),(h.nodes.turn (Q0f.of_below hb fun _=>False) (fun _ h=>h.elim))⟩
theorem EI.s5 (h:EI R s m d w wr a n c a2 c2 below acc vs p bd r0 N D V W) (d3:D 3=true) (d5:D 5=false) (d10:D 10=false) (d12:D 12=false) (d14:D 14=false) {g cap H:Nat} (I0:Row W' (w.heap.size+1) 82 1 (some ⟨g,0,none⟩) (n+1) cap (vs++[V 3])) (m7:W.grownBy W' (Value.slice a n c).ownBlock) (R1:(Value.slice a n c).ownBlock=some g∨g=H) (hH:W.heap.size=H):
 EI R s m d w wr a n c a2 c2 below acc vs p bd r0 N (Q3q D 5) (Q3b V 5 (.slice (some ⟨g,0,none⟩) (n+1) cap)) W':=by
 obtain ⟨hR,B0,ha,Zp⟩:=h.st;have o7:w.heap.size<W.heap.size:=Ue B0 h.big;have ht:Q0f (fun k=>∃x,a=some x/\x.block=k) W W':=Q0f.of_grown m7 fun r hr _=>by
  cases a with
  |none=>simp[Value.ownBlock] at hr
  |some x=>exact ⟨x,rfl,by simpa[Value.ownBlock] using hr⟩
 have q5:∀k,(∃x,a=some x/\x.block=k)->w.heap.size+1<=k/\k<wr.heap.size:=by
  rintro k ⟨x,hx,rfl⟩;exact ha x hx
 have nb:¬(∃x,a=some x/\x.block=w.heap.size):=fun e=>by have:=q5 _ e;omega
 have nR:¬(∃x,a=some x/\x.block=R):=fun e=>by have:=q5 _ e;omega
 have e0:=ht.cell (p:=⟨w.heap.size,0,none⟩) o7 nb;have e1:=ht.cell (p:=⟨w.heap.size,1,none⟩) o7 nb;exact ⟨h.st,(h.turn.trans ht (fun k hk e=>by have:=q5 _ e;omega)),(Ur h.big ht.size),(fun hd=>e0.trans (h.c0 hd)),(fun hd=>ff d12 hd),(fun hd=>e1.trans (h.c1 hd)),(fun hd=>ff d14 hd),((ht.frozen (p:=⟨w.heap.size,0,none⟩) o7 nb).trans h.f0),((ht.frozen (p:=⟨w.heap.size,1,none⟩) o7 nb).trans h.f1),(fun hd=>ff hd d3),(fun hd=>by
  obtain ⟨q0,t,u,q1,q2⟩:=h.nd hd;refine ⟨⟨q0.1,Ur q0.2 ht.size⟩,t,u,q1,?_⟩;cases r0 with
  |error q=>exact ⟨q2.1.keep ht nR,q2.2⟩
  |ok z=>exact ⟨q2.1.turn ht (fun k hk=>.inl (q5 k hk).2),q2.2.1.keep ht nR,q2.2.2⟩),h.v0,h.v1,h.v2,(fun hd=>by
  obtain ⟨b9,q1,q2,q3⟩:=h.v4 hd;exact ⟨b9,q1,q2,(ht.block b9 (Uv.1 q3).1 (fun e=>by have:=q5 _ e;omega)).trans q3⟩),h.v6,h.v7,h.v8,(fun hd=>by
  obtain ⟨b9,q1,q2,q3⟩:=h.v9 hd;exact ⟨b9,q1,q2,(ht.block b9 (Uv.1 q3).1 (fun e=>by have:=q5 _ e;omega)).trans q3⟩),h.v11,h.v13,(fun hd=>tf hd),(fun _=>⟨g,cap,rfl,I0,by
  rcases R1 with h1|h1
  ·cases a with
   |none=>simp[Value.ownBlock] at h1
   |some x=>exact .inl ⟨x,rfl,by simpa[Value.ownBlock] using h1⟩
  ·exact .inr (by have:=(h.nd d3).1.2;omega)⟩),(fun hd=>(h.rb hd).turn ht (fun y hy e=>by obtain ⟨x,hx,e⟩:=e;exact Qhu (h.ra d5) (h.rb hd) (by decide) hx hy e)),(fun hd=>ff d10 hd),(h.nodes.turn ht (fun k hk=>.inl (.inr (.inl hk))))⟩
theorem EI.s10 (h:EI R s m d w wr a n c a2 c2 below acc vs p bd r0 N D V W) (d3:D 3=true) (d5:D 5=true) (d10:D 10=false) (d12:D 12=false) (d14:D 14=false) {g cap H:Nat} (I0:Row W' (w.heap.size+1) 4 1 (some ⟨g,0,none⟩) (n+1) cap (acc.map (fun z=>Value.bool z.1)++[.bool below])) (m7:W.grownBy W' (Value.slice a2 n c2).ownBlock) (R1:(Value.slice a2 n c2).ownBlock=some g∨g=H) (hH:W.heap.size=H):
 EI R s m d w wr a n c a2 c2 below acc vs p bd r0 N (Q3q D 10) (Q3b V 10 (.slice (some ⟨g,0,none⟩) (n+1) cap)) W':=by
 obtain ⟨hR,B0,ha,Zp⟩:=h.st;have o7:w.heap.size<W.heap.size:=Ue B0 h.big;have ht:Q0f (fun k=>∃x,a2=some x/\x.block=k) W W':=Q0f.of_grown m7 fun r hr _=>by
  cases a2 with
  |none=>simp[Value.ownBlock] at hr
  |some x=>exact ⟨x,rfl,by simpa[Value.ownBlock] using hr⟩
 have q5:∀k,(∃x,a2=some x/\x.block=k)->w.heap.size+1<=k/\k<wr.heap.size:=by
  rintro k ⟨x,hx,rfl⟩;exact Zp x hx
 have nb:¬(∃x,a2=some x/\x.block=w.heap.size):=fun e=>by have:=q5 _ e;omega
 have nR:¬(∃x,a2=some x/\x.block=R):=fun e=>by have:=q5 _ e;omega
 have e0:=ht.cell (p:=⟨w.heap.size,0,none⟩) o7 nb;have e1:=ht.cell (p:=⟨w.heap.size,1,none⟩) o7 nb;exact ⟨h.st,(h.turn.trans ht (fun k hk e=>by have:=q5 _ e;omega)),(Ur h.big ht.size),(fun hd=>e0.trans (h.c0 hd)),(fun hd=>ff d12 hd),(fun hd=>e1.trans (h.c1 hd)),(fun hd=>ff d14 hd),((ht.frozen (p:=⟨w.heap.size,0,none⟩) o7 nb).trans h.f0),((ht.frozen (p:=⟨w.heap.size,1,none⟩) o7 nb).trans h.f1),(fun hd=>ff hd d3),(fun hd=>by
  obtain ⟨q0,t,u,q1,q2⟩:=h.nd hd;refine ⟨⟨q0.1,Ur q0.2 ht.size⟩,t,u,q1,?_⟩;cases r0 with
  |error q=>exact ⟨q2.1.keep ht nR,q2.2⟩
  |ok z=>exact ⟨q2.1.turn ht (fun k hk=>.inl (q5 k hk).2),q2.2.1.keep ht nR,q2.2.2⟩),h.v0,h.v1,h.v2,(fun hd=>by
  obtain ⟨b9,q1,q2,q3⟩:=h.v4 hd;exact ⟨b9,q1,q2,(ht.block b9 (Uv.1 q3).1 (fun e=>by have:=q5 _ e;omega)).trans q3⟩),h.v6,h.v7,h.v8,(fun hd=>by
  obtain ⟨b9,q1,q2,q3⟩:=h.v9 hd;exact ⟨b9,q1,q2,(ht.block b9 (Uv.1 q3).1 (fun e=>by have:=q5 _ e;omega)).trans q3⟩),h.v11,h.v13,(fun hd=>ff hd d5),(fun hd=>by
  obtain ⟨g1,cap1,q1,q2,q3⟩:=h.ra' hd;refine ⟨g1,cap1,q1,q2.turn ht (fun y hy e=>?_),q3⟩;obtain ⟨x,hx,e⟩:=e;exact Qhu q2 (h.rb d10) (by decide) hy hx e.symm),(fun hd=>tf hd),(fun _=>⟨g,cap,rfl,I0,by
  rcases R1 with h1|h1
  ·cases a2 with
   |none=>simp[Value.ownBlock] at h1
   |some x=>exact .inl ⟨x,rfl,by simpa[Value.ownBlock] using h1⟩
  ·exact .inr (by have:=(h.nd d3).1.2;omega)⟩),(h.nodes.turn ht (fun k hk=>.inl (.inr (.inr hk))))⟩
theorem EI.s12 (h:EI R s m d w wr a n c a2 c2 below acc vs p bd r0 N D V W) (d3:D 3=true) (d5:D 5=true) (d10:D 10=true) (d12:D 12=false) (v:Value):
 EI R s m d w wr a n c a2 c2 below acc vs p bd r0 N (Q3q D 12) (Q3b V 12 v) (W.setCell ⟨w.heap.size,0,none⟩ (V 5)):=by
 obtain ⟨hR,B0,ha,Zp⟩:=h.st;have o7:w.heap.size<W.heap.size:=Ue B0 h.big;have ht:Q0f (fun k=>k=w.heap.size) W (W.setCell ⟨w.heap.size,0,none⟩ (V 5)):=Q0f.setCell (fun k=>k=w.heap.size) W (p:=⟨w.heap.size,0,none⟩) rfl _;have nR:¬(R=w.heap.size):=by omega
 exact ⟨h.st,(h.turn.trans ht (fun k hk (e:k=w.heap.size)=>by omega)),(Ur h.big ht.size),(fun hd=>tf hd),(fun _=>UE _ _ _ (by rw[h.c0 d12];rfl)),(fun hd=>(Uc _ _ _ _ (by simp)).trans (h.c1 hd)),(fun hd=>(Uc _ _ _ _ (by simp)).trans (h.c1' hd)),((Uh _ _ _ _).trans h.f0),((Uh _ _ _ _).trans h.f1),(fun hd=>ff hd d3),(fun hd=>by
  obtain ⟨q0,t,u,q1,q2⟩:=h.nd hd;refine ⟨⟨q0.1,Ur q0.2 ht.size⟩,t,u,q1,?_⟩;cases r0 with
  |error q=>exact ⟨q2.1.keep ht nR,q2.2⟩
  |ok z=>exact ⟨q2.1.turn ht (fun k (hk:k=w.heap.size)=>.inl (by omega)),q2.2.1.keep ht nR,q2.2.2⟩),h.v0,h.v1,h.v2,(fun hd=>by
  obtain ⟨b9,q1,q2,q3⟩:=h.v4 hd;exact ⟨b9,q1,q2,(ht.block b9 (Uv.1 q3).1 (fun (e:b9=w.heap.size)=>by omega)).trans q3⟩),h.v6,h.v7,h.v8,(fun hd=>by
  obtain ⟨b9,q1,q2,q3⟩:=h.v9 hd;exact ⟨b9,q1,q2,(ht.block b9 (Uv.1 q3).1 (fun (e:b9=w.heap.size)=>by omega)).trans q3⟩),h.v11,h.v13,(fun hd=>ff hd d5),(fun hd=>by
  obtain ⟨g1,cap1,q1,q2,q3⟩:=h.ra' hd;exact ⟨g1,cap1,q1,q2.turn ht (fun y hy (e:y.block=w.heap.size)=>by have:=Q1o q2 hy;omega),q3⟩),(fun hd=>ff hd d10),(fun hd=>by
  obtain ⟨g1,cap1,q1,q2,q3⟩:=h.rb' hd;exact ⟨g1,cap1,q1,q2.turn ht (fun y hy (e:y.block=w.heap.size)=>by have:=Q1o q2 hy;omega),q3⟩),(h.nodes.turn ht (fun k (hk:k=w.heap.size)=>.inl (.inl (by omega))))⟩
theorem EI.s14 (h:EI R s m d w wr a n c a2 c2 below acc vs p bd r0 N D V W) (d3:D 3=true) (d5:D 5=true) (d10:D 10=true) (d14:D 14=false) (v:Value):
 EI R s m d w wr a n c a2 c2 below acc vs p bd r0 N (Q3q D 14) (Q3b V 14 v) (W.setCell ⟨w.heap.size,1,none⟩ (V 10)):=by
 obtain ⟨hR,B0,ha,Zp⟩:=h.st;have o7:w.heap.size<W.heap.size:=Ue B0 h.big;have ht:Q0f (fun k=>k=w.heap.size) W (W.setCell ⟨w.heap.size,1,none⟩ (V 10)):=Q0f.setCell (fun k=>k=w.heap.size) W (p:=⟨w.heap.size,1,none⟩) rfl _;have nR:¬(R=w.heap.size):=by omega
 exact ⟨h.st,(h.turn.trans ht (fun k hk (e:k=w.heap.size)=>by omega)),(Ur h.big ht.size),(fun hd=>(Uc _ _ _ _ (by simp)).trans (h.c0 hd)),(fun hd=>(Uc _ _ _ _ (by simp)).trans (h.c0' hd)),(fun hd=>tf hd),(fun _=>UE _ _ _ (by rw[h.c1 d14];rfl)),((Uh _ _ _ _).trans h.f0),((Uh _ _ _ _).trans h.f1),(fun hd=>ff hd d3),(fun hd=>by
  obtain ⟨q0,t,u,q1,q2⟩:=h.nd hd;refine ⟨⟨q0.1,Ur q0.2 ht.size⟩,t,u,q1,?_⟩;cases r0 with
  |error q=>exact ⟨q2.1.keep ht nR,q2.2⟩
  |ok z=>exact ⟨q2.1.turn ht (fun k (hk:k=w.heap.size)=>.inl (by omega)),q2.2.1.keep ht nR,q2.2.2⟩),h.v0,h.v1,h.v2,(fun hd=>by
  obtain ⟨b9,q1,q2,q3⟩:=h.v4 hd;exact ⟨b9,q1,q2,(ht.block b9 (Uv.1 q3).1 (fun (e:b9=w.heap.size)=>by omega)).trans q3⟩),h.v6,h.v7,h.v8,(fun hd=>by
  obtain ⟨b9,q1,q2,q3⟩:=h.v9 hd;exact ⟨b9,q1,q2,(ht.block b9 (Uv.1 q3).1 (fun (e:b9=w.heap.size)=>by omega)).trans q3⟩),h.v11,h.v13,(fun hd=>ff hd d5),(fun hd=>by
  obtain ⟨g1,cap1,q1,q2,q3⟩:=h.ra' hd;exact ⟨g1,cap1,q1,q2.turn ht (fun y hy (e:y.block=w.heap.size)=>by have:=Q1o q2 hy;omega),q3⟩),(fun hd=>ff hd d10),(fun hd=>by
  obtain ⟨g1,cap1,q1,q2,q3⟩:=h.rb' hd;exact ⟨g1,cap1,q1,q2.turn ht (fun y hy (e:y.block=w.heap.size)=>by have:=Q1o q2 hy;omega),q3⟩),(h.nodes.turn ht (fun k (hk:k=w.heap.size)=>.inl (.inl (by omega))))⟩
structure Qb5 (R:Nat) (w wr:World) (a:OA) (n c:Nat) (a2:OA) (c2:Nat) (acc:List (Bool × Ex)) (vs:LV):Prop where
 turn:Q0f (OnR R) w wr
 c0:wr.cell? ⟨w.heap.size,0,none⟩=some (.slice a n c)
 c1:wr.cell? ⟨w.heap.size,1,none⟩=some (.slice a2 n c2)
 f0:wr.frozen? ⟨w.heap.size,0,none⟩=false
 f1:wr.frozen? ⟨w.heap.size,1,none⟩=false
 ra:Row wr (w.heap.size+1) 82 1 a n c vs
 rb:Row wr (w.heap.size+1) 4 1 a2 n c2 (acc.map fun z=>Value.bool z.1)
 nodes:Q1b (fpX w.heap.size a a2) wr (acc.map (·.2)) vs
 len:acc.length=n
theorem Qb5.lt (h:Qb5 R w wr a n c a2 c2 acc vs):w.heap.size<wr.heap.size:=US h.c0
theorem Qb5.step (h:Qb5 R w wr a n c a2 c2 acc vs) (hR:R<w.heap.size) (ht:Q0f (OnR R) wr W'):Qb5 R w W' a n c a2 c2 acc vs:=
 ⟨h.turn.trans0 ht,(ht.cell (p:=⟨w.heap.size,0,none⟩) h.lt (fun (e:w.heap.size=R)=>by omega)).trans h.c0,(ht.cell (p:=⟨w.heap.size,1,none⟩) h.lt (fun (e:w.heap.size=R)=>by omega)).trans h.c1,
   (ht.frozen (p:=⟨w.heap.size,0,none⟩) h.lt (fun (e:w.heap.size=R)=>by omega)).trans h.f0,(ht.frozen (p:=⟨w.heap.size,1,none⟩) h.lt (fun (e:w.heap.size=R)=>by omega)).trans h.f1,
   h.ra.turn ht (fun x hx (e:x.block=R)=>by have:=Q1o h.ra hx;omega),h.rb.turn ht (fun x hx (e:x.block=R)=>by have:=Q1o h.rb hx;omega),h.nodes.turn ht (fun k (hk:k=R)=>.inl (by omega)),h.len⟩
theorem Qb5.start (h:Qb5 R w wr a n c a2 c2 acc vs) (hR:R<w.heap.size) (hr:Q0q wr R s (p:Int) m d bd) (V:Nat->Value):EI R s m d w wr a n c a2 c2 below acc vs p bd r0 0 (fun _=>false) V wr.drew:=
 ⟨⟨hR,h.lt,fun _ hx=>Q1o h.ra hx,fun _ hx=>Q1o h.rb hx⟩,h.turn.drew,Ug _,fun _=>h.c0,tf2,fun _=>h.c1,tf2,h.f0,h.f1,fun _=>hr.drew,tf2,tf2,tf2,tf2,tf2,tf2,tf2,tf2,tf2,tf2,tf2,fun _=>h.ra.drew,tf2,fun _=>h.rb.drew,tf2,
   (h.nodes.more (fp':=fun k=>fpX w.heap.size a a2 k∨wr.heap.size<=k) (fun _ hk=>hk)).turn (Qns (Q0f.refl (fun _=>False) wr)) (fun _ h=>h.elim)⟩
def Qvk (R:Nat) (s:ByteArray) (m d:Int) (w:World) (n:Nat) (below:Bool) (acc:List (Bool × Ex)) (vs:LV) (r0:PR Ex) (wx:World):Prop:=
 ∃g cap g2 cap2 v,wx.cell? ⟨w.heap.size,0,none⟩=some (.slice (some ⟨g,0,none⟩) (n+1) cap)/\wx.cell? ⟨w.heap.size,1,none⟩=some (.slice (some ⟨g2,0,none⟩) (n+1) cap2)/\Q0f (OnR R) w wx/\match r0 with
  | .ok (x,q)=>Qb5 R w wx (some ⟨g,0,none⟩) (n+1) cap (some ⟨g2,0,none⟩) cap2 (acc++[(below,x)]) (vs++[v])/\Q0q wx R s (q:Int) m d false/\q<=s.size
  | .error q=>Q0q wx R s (q:Int) m d true/\q<=s.size
theorem EI.fin (h:EI R s m d w wr a n c a2 c2 below acc vs p bd r0 N D V W) (hl:acc.length=n) (hD:∀j,j<15->D j=true):Qvk R s m d w n below acc vs r0 W:=by
 obtain ⟨hR,B0,ha,Zp⟩:=h.st;obtain ⟨g,cap,e5,I0,hg⟩:=h.ra' (hD 5 (by decide));obtain ⟨g2,cap2,e10,hrow2,Y6⟩:=h.rb' (hD 10 (by decide));have c0:=h.c0' (hD 12 (by decide));have c1:=h.c1' (hD 14 (by decide));rw[e5] at c0;rw[e10] at c1;obtain ⟨hN,t,u,e3,hr⟩:=h.nd (hD 3 (by decide));refine ⟨g,cap,g2,cap2,V 3,c0,c1,h.turn,?_⟩;cases r0 with
 |error q=>exact hr
 |ok z=>
  obtain ⟨x,q⟩:=z;have hlowN:∀k,fpX w.heap.size (some ⟨g,0,none⟩) (some ⟨g2,0,none⟩) k->(k<wr.heap.size∨N<=k):=by
   rintro k (hk|⟨y,hy,hk⟩|⟨y,hy,hk⟩)
   ·exact .inl (by omega)
   ·injection hy with hy;subst hy;rcases hg with ⟨x',Qt,e⟩|e
    ·exact .inl (by have:=ha x' Qt;have hk:g=k:=hk;omega)
    ·exact .inr (by have hk:g=k:=hk;omega)
   ·injection hy with hy;subst hy;rcases Y6 with ⟨x',Qt,e⟩|e
    ·exact .inl (by have:=Zp x' Qt;have hk:g2=k:=hk;omega)
    ·exact .inr (by have hk:g2=k:=hk;omega)
  have hold:∀k,fpX w.heap.size (some ⟨g,0,none⟩) (some ⟨g2,0,none⟩) k->(fpX w.heap.size a a2 k∨wr.heap.size<=k):=by
   rintro k (hk|⟨y,hy,hk⟩|⟨y,hy,hk⟩)
   ·exact .inl (.inl hk)
   ·injection hy with hy;subst hy;have hk:g=k:=hk;subst hk;rcases hg with ⟨x',Qt,e⟩|e
    ·exact .inl (.inr (.inl ⟨x',Qt,e⟩))
    ·exact .inr (by omega)
   ·injection hy with hy;subst hy;have hk:g2=k:=hk;subst hk;rcases Y6 with ⟨x',Qt,e⟩|e
    ·exact .inl (.inr (.inr ⟨x',Qt,e⟩))
    ·exact .inr (by omega)
  refine ⟨⟨h.turn,c0,c1,h.f0,h.f1,I0,?_,?_,by rw[Uj,hl];rfl⟩,hr.2⟩
  ·rw[UP];exact hrow2
  ·rw[UP];exact (h.nodes.more fun k hk=>.inl (hold k hk)).snoc (hr.1.more fun k hk=>.inl (hlowN k hk))
end
section
variable {P:Program} {ops:Array Oper}
theorem Q3u {a:Act} {j:Nat} {t:Tmp} {v:Value} (hj:(ops[j]?).bind (·.dst)=some t) (hv:Q0b ops a j=v):a.tmps[t]?.getD undef=v:=by
 unfold Q0b at hv;rw[hj] at hv;have hv:a.tmps.getD t undef=v:=hv;rwa[Up] at hv
theorem Qfj {a:Act} {j:Nat} {t:Tmp} {v:Value} (hj:(ops[j]?).bind (·.dst)=some t) (hv:Q0b ops a j=v):a.eval (.tmp t)=v:=by
 unfold Q0b at hv;rw[hj] at hv;exact hv
theorem Q3v {K:Value->World->Prop} {o:Oper} {a:Act} {w w':World} {u:Value} (hg:o.guard=none) (hr:(execOp a.eval o).run P w=.ok (.value u) w') (h:K u w'):Region.wanted o (yielded ops a.tmps)=true/\Q2o P K ((execOp a.eval o).run P w):=
 ⟨by unfold Region.wanted;rw[hg],by rw[hr];exact h⟩
theorem Qea {K:Value->World->Prop} {o:Oper} {a:Act} {w w':World} (hg:o.guard=none) (hr:(execOp a.eval o).run P w=.ok .skip w') (h:K undef w'):Region.wanted o (yielded ops a.tmps)=true/\Q2o P K ((execOp a.eval o).run P w):=
 ⟨by unfold Region.wanted;rw[hg],by rw[hr];exact h⟩
theorem Qnt {K:Value->World->Prop} {o:Oper} {a:Act} {w:World} {f:FuncId} {args:Array Value} (hg:o.guard=none) (hr:(execOp a.eval o).run P w=.ok (.enter f args) w) (h:Calls P f args w fun e w'=>∃v,e=.returned v/\K v w'):Region.wanted o (yielded ops a.tmps)=true/\Q2o P K ((execOp a.eval o).run P w):=
 ⟨by unfold Region.wanted;rw[hg],by rw[hr];exact h⟩
theorem Qau {K:Value->World->Prop} {o:Oper} {a:Act} {w:World} (hg:o.guard=none) (s x:Operand) (t:TypeId)
 (ho:o.op=.call { callee:=.builtin .append,args:= #[s,x],argTypes:= #[t,t] })
 (base:Nat) (e:TypeId) (i:TypeInfo) (z:Value) (bytes:Nat) (ht:P.underlying t=some (.slice e)) (hi:P.info? e=some i) (hz:i.zero=some z)
 (A9:i.size=1) (XY:i.bytes=bytes) (Zt:z.cells.size=1) (v:Value) (n:Nat) (xs:LV) (hs:a.eval s=v) (G5:w.ownsRow base e 1 v n xs)
 (b:Nat) (u:Value) (hx:a.eval x=.slice (some ⟨b,0,none⟩) 1 1) (hb:w.heap[b]?=some (.cells #[u] e (0,0))) (h1:u.oneCell'=true)
 (h63:n+1<=maxLen) (Qd:(n+1)*bytes<=140737488355328) (Xj:base<=w.heap.size)
 (h:∀g cap w',w'.ownsRow base e 1 (.slice (some ⟨g,0,none⟩) (n+1) cap) (n+1) (xs++[u])->w.grownBy w' v.ownBlock->(v.ownBlock=some g∨g=w.heap.size)->K (.slice (some ⟨g,0,none⟩) (n+1) cap) w'):Region.wanted o (yielded ops a.tmps)=true/\Q2o P K ((execOp a.eval o).run P w):=by
 obtain ⟨g,cap,w',hr,h2,h3,h4,_⟩:=run_append_lies (P:=P) w t o.type base e i z 1 bytes ht hi hz A9 XY Zt (by decide) v n xs G5 ⟨b,0,none⟩ 1 1 [u] rfl (TA (cs:= #[u]) hb) (by simpa using h1) (by decide) h63 Qd Xj _ rfl;refine Q3v (u:=.slice (some ⟨g,0,none⟩) (n+1) cap) (w':=w') hg ?_ (h g cap w' h2 h3 h4);unfold execOp;simp only[ho,resolve,invoke,builtin,Sem.run_bind,Xbt,Xa7,List.map_toArray,Xa4,Xbd,hs,hx,hr]
end
end Go.Proofs.YtdilmfakkppgpaaGreatDoor
namespace Go.Proofs.YtdilmfakkppgpaaGreatDoor
open Go.RowKit WordsM
def Q3h (all:List Q01) (q:P4):Option Nat:=(all.map fun m=>p4 m.es).findIdx? fun r=>decide (r=q)
theorem Qhv:∀{T:List Q0a} {c q:Q0a} {j:Nat},T.findIdx? (fun p=>decide (p.2=c.2))=some j->T[j]?=some q->Q62 T c=T.set j (q.1+c.1,q.2)
 |[],c,q,j,h,_=>by simp at h
 |p::r,c,q,j,h,hq=>by
  rw[Q62];rw[Xbi] at h
  by_cases hp:p.2=c.2
  ·rw[Us hp];simp only[hp,decide_true,Xa5,Un] at h;subst h;simp only[UI,Un] at hq;subst hq;rfl
  ·rw[Uq hp];simp only[hp,decide_false,Tl,Xaq,Option.map_eq_some_iff] at h;obtain ⟨j',h1,rfl⟩:=h;rw[Qhv h1 (by simpa using hq)];rfl
theorem Qma:∀{T:List Q0a} {c:Q0a},T.findIdx? (fun p=>decide (p.2=c.2))=none->Q62 T c=T++[c]
 |[],c,_=>rfl
 |p::r,c,h=>by
  rw[Q62];rw[Xbi] at h
  by_cases hp:p.2=c.2
  ·simp[hp] at h
  ·rw[Uq hp];simp only[hp,decide_false,Tl,Xaq,Option.map_eq_none_iff] at h;rw[Qma h];rfl
theorem Qab {k:Nat} (hk:k<=4):∀{all:List Q01} {E:List Int},(∀m∈all,m.es.length=k)->E.length=k->Q3h all (p4 E)=(all.map Q01.term).findIdx? fun p=>decide (p.2=E)
 |[],E,_,_=>rfl
 |m::r,E,h,hE=>by
  have ih:=Qab hk (all:=r) (fun m hm=>h m (Xau _ hm)) hE;unfold Q3h at ih⊢;rw[Xa4,Xa4,Xbi,Xbi,ih];have e:decide (p4 m.es=p4 E)=decide (m.term.2=E):=by
   apply Bool.eq_iff_iff.2
   rw[decide_eq_true_iff,decide_eq_true_iff];exact ⟨fun e=>Qvi (h m (by simp)) hE hk e,fun e=>by have e:m.es=E:=e;rw[e]⟩
  rw[e]
theorem Qre {all:List Q01} {j:Nat} {m m':Q01} (hm:all[j]?=some m) (he:m'.es=m.es):Q3h (all.set j m')=Q3h all:=by
 funext q
 unfold Q3h
 congr 1
 rw[List.map_set,he];refine List.ext_getElem? fun i=>?_
 by_cases hi:j=i
 ·subst hi;rw[TN (by rw[UQ];exact (Um.1 hm).1),UT,hm];rfl
 ·rw[Tj hi]
theorem Qnu {all:List Q01} {m:Q01} {N:Nat} (hN:all.length=N) (h:Q3h all (p4 m.es)=none):Q3h (all++[m])=fun r=>if r=p4 m.es then some N else Q3h all r:=by
 funext q
 unfold Q3h at h⊢;rw[UP,List.findIdx?_append]
 by_cases hq:q=p4 m.es
 ·subst hq;rw[h,Us rfl];simp[Xbi,hN]
 ·rw[Uq hq];have:List.findIdx? (fun r=>decide (r=q)) ([m].map fun m=>p4 m.es)=none:=by
   simp[Xbi];exact fun e=>hq e.symm
  rw[this];cases List.findIdx? (fun r=>decide (r=q)) (all.map fun m=>p4 m.es) <;> rfl
theorem Qu2 {all:List Q01} {q:P4} {j:Nat} (h:Q3h all q=some j):∃m,all[j]?=some m/\p4 m.es=q:=by
 unfold Q3h at h;obtain ⟨hj,h1,_⟩:=List.findIdx?_eq_some_iff_getElem.1 h;rw[UQ] at hj;refine ⟨all[j],Ub hj,?_⟩;simpa using h1
theorem Qu3 {all:List Q01} {j:Nat} {m':Q01}:(all.set j m').map Q01.term=(all.map Q01.term).set j m'.term:=by rw[List.map_set]
def Qwl (k:Nat) (T:Int) (m:Q01):Prop:=Q14 k m.es/\-65536<=m.exp/\m.exp<=65536/\64*(m.ws.length:Int)+m.exp<=T
def Qrf (w:World) (ms:List Q01) (k mb:Nat) (s7 s31:Value) (wr:World):Prop:=
 ∃(i:Nat) (a:OA) (N c:Nat) (all:List Q01),s7=.slice a N c/\s31=.int .i64 (i:Int)/\i<=ms.length/\N<=i/\Q19 w.heap.size wr a N c all/\all.map Q01.term=Qaq ((ms.take i).map Q01.term)/\
  (∀m∈all,Qwl k (69632+64*(i:Int)) m)/\Q4v wr mb N (Q3h all)/\Bw w wr
def Qwm (w:World) (ms:List Q01) (k mb i p9:Nat) (v0 v1:Value) (aw:OA) (lw cw:Nat) (v3:Value) (m:Q01) (s7 s10:Value) (wx:World):Prop:=
 ∃(a:OA) (N c:Nat) (all:List Q01) (j:Nat) (mj:Q01),s7=.slice a N c/\s10=.int .i64 (j:Int)/\N<=i+1/\Q19 w.heap.size wx a N c all/\all[j]?=some mj/\mj.es=m.es/\
  (∀b e L,Q28 b e L=Q28 mj.neg mj.exp mj.ws+Q28 m.neg m.exp m.ws->(all.set j ⟨b,e,L,mj.es⟩).map Q01.term=Qaq ((ms.take (i+1)).map Q01.term))/\
  (∀m∈all,Qwl k (69632+64*(i:Int)) m)/\Q4v wx mb N (Q3h all)/\Bw w wx/\Q38 wx p9 v0 v1 (.slice aw lw cw) v3/\p9<wx.heap.size/\WordsIn wx aw lw cw m.ws
theorem Q4v.cells {w:World} {b n:Nat} {g:P4->Option Nat} (h:Q4v w b n g) (o:Nat):w.cell? ⟨b,o,none⟩=none:=by
 obtain ⟨D,⟨es,clock,hb,_⟩,_⟩:=h;unfold World.cell?;rw[hb]
theorem Q4v.ne {w:World} {b n B N c:Nat} {g:P4->Option Nat} (h:Q4v w b n g) {a:OA} {all:List Q01} (hs:Q19 B w a N c all) {x:Addr} (hx:a=some x):x.block≠b:=by
 intro e;obtain ⟨xs,hr⟩:=hs.row;obtain ⟨D,⟨es,clock,hb,_⟩,_⟩:=h;rcases hr.1.form with ⟨h0,_⟩|⟨g',cur,h0,_,_,hh,_⟩
 ·rw[h0] at hx;cases hx
 ·rw[h0] at hx;injection hx with hx;subst hx
  have e:g'=b:=e;subst e;rw[hh] at hb;cases hb
theorem Q4v.below {w w':World} {b n:Nat} {g:P4->Option Nat} (h:Q4v w b n g) (hb:Bw w w'):Q4v w' b n g:=h.keep (hb.block _ h.lt)
end Go.Proofs.YtdilmfakkppgpaaGreatDoor
namespace Go.Proofs
open Go.Shelf
def Tryz.J1a:Go.Shelf.Ren:=⟨fun|6=>138|15=>167|14=>166|28=>201|29=>144|20=>193|21=>194|22=>195|23=>196|24=>197|25=>198|26=>199|27=>200|46=>221|47=>222|48=>223|49=>224|50=>225|57=>231|n=>n,fun|22=>25|24=>44|25=>139|3=>3|39=>94|0=>0|53=>152|55=>74|4=>4|46=>223|45=>222|50=>180|5=>5|9=>9|66=>241|70=>244|76=>247|77=>248|n=>n,fun|n=>n⟩
theorem Tryz.J1b:Go.Proofs.SlLaysF0.n6 Tryz.prog Tryz.J1a:={
 mixed:=by kernel_rfl
 f6:=⟨Tryz.f138.name,by decide,Tryz.func138.trans (congrArg some (by kernel_rfl))⟩
 f14:=⟨Tryz.f166.name,by decide,Tryz.func166.trans (congrArg some (by kernel_rfl))⟩
 f15:=Tryz.func167.trans (congrArg some (by kernel_rfl))
 f20:=⟨Tryz.f193.name,by decide,Tryz.func193.trans (congrArg some (by kernel_rfl))⟩
 f21:=⟨Tryz.f194.name,by decide,Tryz.func194.trans (congrArg some (by kernel_rfl))⟩
 f22:=⟨Tryz.f195.name,by decide,Tryz.func195.trans (congrArg some (by kernel_rfl))⟩
 f23:=⟨Tryz.f196.name,by decide,Tryz.func196.trans (congrArg some (by kernel_rfl))⟩
 f24:=⟨Tryz.f197.name,by decide,Tryz.func197.trans (congrArg some (by kernel_rfl))⟩
 f25:=⟨Tryz.f198.name,by decide,Tryz.func198.trans (congrArg some (by kernel_rfl))⟩
 f26:=⟨Tryz.f199.name,by decide,Tryz.func199.trans (congrArg some (by kernel_rfl))⟩
 f27:=⟨Tryz.f200.name,by decide,Tryz.func200.trans (congrArg some (by kernel_rfl))⟩
 f28:=Tryz.func201.trans (congrArg some (by kernel_rfl))
 f29:=Tryz.func144.trans (congrArg some (by kernel_rfl))
 f46:=⟨Tryz.f221.name,by decide,Tryz.func221.trans (congrArg some (by kernel_rfl))⟩
 f47:=Tryz.func222.trans (congrArg some (by kernel_rfl))
 f48:=Tryz.func223.trans (congrArg some (by kernel_rfl))
 f49:=⟨Tryz.f224.name,by decide,Tryz.func224.trans (congrArg some (by kernel_rfl))⟩
 f50:=⟨Tryz.f225.name,by decide,Tryz.func225.trans (congrArg some (by kernel_rfl))⟩
 f57:=⟨Tryz.f231.name,by decide,Tryz.func231.trans (congrArg some (by kernel_rfl))⟩
 t0:=Tryz.underlying0
 a0:=Tryz.isAgg0
 z0:=Tryz.sizeOf0
 v0:=Tryz.zeroValue0
 t3:=Tryz.underlying3
 a3:=Tryz.isAgg3
 z3:=Tryz.sizeOf3
 v3:=Tryz.zeroValue3
 t4:=Tryz.underlying4
 a4:=Tryz.isAgg4
 z4:=Tryz.sizeOf4
 v4:=Tryz.zeroValue4
 t5:=Tryz.underlying5
 a5:=Tryz.isAgg5
 z5:=Tryz.sizeOf5
 v5:=Tryz.zeroValue5
 t9:=Tryz.underlying9
 a9:=Tryz.isAgg9
 z9:=Tryz.sizeOf9
 v9:=Tryz.zeroValue9
 t22:=Tryz.underlying25
 a22:=Tryz.isAgg25
 z22:=Tryz.sizeOf25
 v22:=Tryz.zeroValue25
 t25:=Tryz.underlying139
 a25:=Tryz.isAgg139
 z25:=Tryz.sizeOf139
 v25:=Tryz.zeroValue139
 t39:=Tryz.underlying94
 a39:=Tryz.isAgg94
 z39:=Tryz.sizeOf94
 v39:=Tryz.zeroValue94
 t45:=Tryz.underlying222
 a45:=Tryz.isAgg222
 z45:=Tryz.sizeOf222
 v45:=Tryz.zeroValue222
 t46:=Tryz.underlying223
 a46:=Tryz.isAgg223
 z46:=Tryz.sizeOf223
 v46:=Tryz.zeroValue223
 t50:=Tryz.underlying180
 a50:=Tryz.isAgg180
 z50:=Tryz.sizeOf180
 v50:=Tryz.zeroValue180
 t53:=Tryz.underlying152
 a53:=Tryz.isAgg152
 z53:=Tryz.sizeOf152
 v53:=Tryz.zeroValue152
 t55:=Tryz.underlying74
 a55:=Tryz.isAgg74
 z55:=Tryz.sizeOf74
 v55:=Tryz.zeroValue74
 t66:=Tryz.underlying241
 a66:=Tryz.isAgg241
 z66:=Tryz.sizeOf241
 v66:=Tryz.zeroValue241
 t70:=Tryz.underlying244
 a70:=Tryz.isAgg244
 z70:=Tryz.sizeOf244
 v70:=Tryz.zeroValue244
 t76:=Tryz.underlying247
 a76:=Tryz.isAgg247
 z76:=Tryz.sizeOf247
 v76:=Tryz.zeroValue247
 t77:=Tryz.underlying248
 a77:=Tryz.isAgg248
 z77:=Tryz.sizeOf248
 v77:=Tryz.zeroValue248 }
end Go.Proofs
namespace Go.Proofs.YtdilmfakkppgpaaGreatDoor
open Go.RowKit WordsM Go.Sort
structure SM (w:World) (blk:Nat) where
 m:Q01
 aw:OA
 lw:Nat
 cw:Nat
 be:Nat
 oe:Nat
 le:Nat
 ce:Nat
 hi:Q0j w (some ⟨be,oe,none⟩) le ce m.es
 ne:be≠blk
 lt:be<w.heap.size
 hw:WordsIn w aw lw cw m.ws
def Qmb {w:World} {blk:Nat} (x:SM w blk):LV:=[.bool x.m.neg,.int .i64 x.m.exp,.slice x.aw x.lw x.cw,.slice (some ⟨x.be,x.oe,none⟩) x.le x.ce]
def cfM {w:World} {blk:Nat} (x y:SM w blk):Int:=Q2u y.m.es x.m.es
theorem Qu4 {w:World} {blk:Nat} (x:SM w blk):(Qmb x).length=4:=rfl
theorem Qu5 {w:World} {blk:Nat} (x:SM w blk):∀v∈Qmb x,v.oneCell'=true:=by
 intro v hv;simp[Qmb] at hv;rcases hv with rfl|rfl|rfl|rfl <;> rfl
section
variable {α:Type} [Inhabited α]
theorem Qeb (enc:α->LV) (k:Nat) (w:World) (blk off n:Nat) (dk:Array α) (os:Array Obj) {p:Addr} (hp:p.block<w.heap.size) (C1:p.block≠blk):(sortWorldK enc k w blk off n dk os).cell? p=w.cell? p:=by
 unfold sortWorldK;have Z1:(putRowK enc k (Sort.ahead w n) blk off dk).heap.size=w.heap.size:=by unfold putRowK;rw[size_putRow];rfl
 rw[cell?_grow _ _ _ (by rw[Z1];exact hp),cell?_putRowK_other _ _ _ _ _ _ _ C1];rfl
theorem Qec (enc:α->LV) (k:Nat) (w:World) (blk off n:Nat) (dk:Array α) (os:Array Obj) {i:Nat} (hp:i<w.heap.size) (C1:i≠blk):(sortWorldK enc k w blk off n dk os).heap[i]?=w.heap[i]?:=by
 unfold sortWorldK;have Z1:(putRowK enc k (Sort.ahead w n) blk off dk).heap.size=w.heap.size:=by unfold putRowK;rw[size_putRow];rfl
 rw[heap_grow_old _ _ (by rw[Z1];exact hp)];unfold putRowK putRow mapBlock
 show ((Sort.ahead w n).heap.modify blk _)[i]?=_
 rw[Array.getElem?_modify,Uq (fun e=>C1 e.symm)];rfl
theorem Qac (enc:α->LV) (k:Nat) (w:World) (blk off n:Nat) (dk:Array α) (os:Array Obj):w.heap.size<=(sortWorldK enc k w blk off n dk os).heap.size:=by
 unfold sortWorldK;rw[size_grow];have Z1:(putRowK enc k (Sort.ahead w n) blk off dk).heap.size=w.heap.size:=by unfold putRowK;rw[size_putRow];rfl
 omega
end
theorem SM.ints {w w':World} {blk:Nat} (x:SM w blk) (hs:w.heap.size<=w'.heap.size) (hc:∀p:Addr,p.block<w.heap.size->p.block≠blk->w'.cell? p=w.cell? p):Q0j w' (some ⟨x.be,x.oe,none⟩) x.le x.ce x.m.es:=by
 refine ⟨x.hi.len,x.hi.cap,x.hi.most,x.hi.rng,?_⟩;rcases x.hi.rd with h0|⟨b,o,e,hb,Y2⟩
 ·exact .inl h0
 ·refine .inr ⟨b,o,e,Ue hb hs,fun j y hy=>?_⟩;injection e with e;injection e with e1 e2;exact (hc ⟨b,o+j,none⟩ hb (by rw[<-e1];exact x.ne)).trans (Y2 j y hy)
theorem Qci (u0 u1 u2:Value) (a:OA) (n c:Nat) (E:List Int) (v0 v1 v2:Value) (b:OA) (m d:Nat) (F:List Int) (w:World) (h1:Q0j w a n c E) (h2:Q0j w b m d F):
 Calls Tryz.prog 88 #[.agg #[u0,u1,u2,.slice a n c],.agg #[v0,v1,v2,.slice b m d]] w fun r w'=>r=.returned (.int .i64 (Q2u F E))/\w'=(w.alloc (.cells #[u0,u1,u2,.slice a n c] 44)).alloc (.cells #[v0,v1,v2,.slice b m d] 44):=by
 have C0:Bw w (w.alloc (.cells #[u0,u1,u2,.slice a n c] 44)):=Ba;have B2:(w.alloc (.cells #[u0,u1,u2,.slice a n c] 44)).heap.size=w.heap.size+1:=Uo _ _;have D0:Below (w.alloc (.cells #[u0,u1,u2,.slice a n c] 44)).heap.size (w.alloc (.cells #[u0,u1,u2,.slice a n c] 44)) ((w.alloc (.cells #[u0,u1,u2,.slice a n c] 44)).alloc (.cells #[v0,v1,v2,.slice b m d] 44)):=Ba;have hX:=(Q38.new w u0 u1 u2 (.slice a n c) 44).step D0 (Q0r _ _);have hY:=Q38.new (w.alloc (.cells #[u0,u1,u2,.slice a n c] 44)) v0 v1 v2 (.slice b m d) 44;rw[B2] at hY;have hB:=Below.next0 C0 D0;generalize hW:(w.alloc (.cells #[u0,u1,u2,.slice a n c] 44)).alloc (.cells #[v0,v1,v2,.slice b m d] 44)=W at hX hY hB;have hx3:=hX.c3;have hy3:=hY.c3;have E4:=Qcb b m d F a n c E W (h2.step hB) (h1.step hB);have HC:=Ua E4;clear C0 B2 D0 hX hY hB E4 h1 h2
 go_enter Tryz.func88,Tryz.ntmps88
 go_wp2_with (refine HC.out.mono ?_;rintro r w1 ⟨rfl,rfl⟩)
 go_ret;exact ⟨rfl,rfl⟩
theorem Qu6 {w:World} {blk:Nat}:SWO (ltOf (cfM (w:=w) (blk:=blk))):=by
 refine ⟨fun x=>?_,fun x y z h1 h2=>?_,fun x y z h1 h2=>?_⟩
 ·unfold ltOf cfM;rw[Q99];rfl
 ·unfold ltOf cfM at*;rw[decide_eq_true_iff] at*;have a1:=Q3s y.m.es x.m.es;have a2:=Q3s z.m.es y.m.es;have a3:=Q3s z.m.es x.m.es;have:=Q68 x.m.es y.m.es z.m.es (by omega) (by omega);omega
 ·unfold ltOf cfM at*;rw[Xak] at*;intro h3;have a3:=Q3s z.m.es x.m.es
  by_cases e1:Q2u y.m.es x.m.es=0
  ·have e:=(Q7i _ _).1 e1;rw[e] at h2;exact h2 h3
  ·by_cases e2:Q2u z.m.es y.m.es=0
   ·have e:=(Q7i _ _).1 e2;rw[<-e] at h1;exact h1 h3
   ·have:=Q68 z.m.es y.m.es x.m.es (by omega) (by omega);omega
theorem Qu7 {B g n c:Nat} {w:World} {outs:List Q01} (h:Q19 B w (some ⟨g,0,none⟩) n c outs) (hn:n<=1000) (X5:∀m∈outs,-65536<=m.exp/\m.exp<=65536):
 Calls Tryz.prog 138 #[.slice (some ⟨g,0,none⟩) n c,.func (.func 88) #[] #[]] w fun r w'=>r=.returned (.tuple #[])/\
  ∃outs',Q08 w' (some ⟨g,0,none⟩) n c outs'/\outs'.Perm outs/\outs'.Pairwise (fun p q=>¬Q2u p.es q.es<0)/\Below B w w':=by
 have hg:=h.lt rfl;have B7:B<=g:=hg.1;have Y6:g<w.heap.size:=hg.2;obtain ⟨xs,Z8⟩:=h.row;have V2:∀j m,outs[j]?=some m->∃x:SM w g,x.m=m/\(∀c,c<4->w.cell? ⟨g,j*4+c,none⟩=some (Qmb x)[c]!):=fun j m hm=>by
  obtain ⟨g',e,aw,lw,cw,be,oe,le,ce,h0,h1,h2,h3,h4,h5,h6,h7⟩:=h.ent j m hm;injection e with e;injection e with e;subst e;refine ⟨⟨m,aw,lw,cw,be,oe,le,ce,h5,h6,h7,h4⟩,rfl,fun c hc=>?_⟩
  match c,hc with
  |0,_=>exact h0
  |1,_=>exact h1
  |2,_=>exact h2
  |3,_=>exact h3
 have V3:=Z8.1.cap;have eg:∀args w,(callFunc 88 args).run Tryz.prog w=.ok (.enter 88 args) w:=enters_of Tryz.func88 (by kernel_rfl) rfl
 by_cases C1:outs=[]
 ·subst C1;have d8:n=0:=h.len.symm;subst d8;have X4:=AnyQ.slices_SortFunc Tryz.J1b 4 (fun w=>by kernel_rfl) (fun w=>by kernel_rfl) (fun _:Unit=>[.bool false,.int .i64 0,.slice none 0 0,.slice none 0 0]) (fun _=>rfl) (fun _ v hv=>by simp at hv;rcases hv with rfl|rfl|rfl <;> rfl) (fun _ _=>0) ⟨fun _=>rfl,fun _ _ _ h _=>h,fun _ _ _ h _=>h⟩ 88 #[] g 0 c #[] w eg (fun m os dk _ x y=>by
   refine (Qci _ _ _ none 0 0 [] _ _ _ none 0 0 [] _ ⟨rfl,Ug _,Uu _,⟨fun x hx=>(by cases hx),fun _ _ e=>(by cases e)⟩,.inl rfl⟩ ⟨rfl,Ug _,Uu _,⟨fun x hx=>(by cases hx),fun _ _ e=>(by cases e)⟩,.inl rfl⟩).mono ?_;rintro e w' ⟨rfl,rfl⟩;exact ⟨rfl,0,_,by rw[alloc_eq_grow,alloc_eq_grow,grow_grow];rfl⟩) (fun j hj=>by simp[flatK] at hj) hg.2 (by decide)
  refine Xba (show Calls Tryz.prog 138 _ _ _ from X4) ?_;rintro e w' ⟨rfl,d',k,os,hp,hs,rfl⟩;exact ⟨rfl,[],⟨rfl,Uu _,by have:=V3.2;simpa[maxLen] using this,.inl rfl⟩,List.Perm.refl _,List.Pairwise.nil,rfl,rfl,rfl,Qac _ _ _ _ _ _ _ _,fun i hi=>Qec _ _ _ _ _ _ _ _ (by omega) (by omega)⟩
 obtain ⟨m0,O7⟩:∃m0,outs[0]?=some m0:=by
  cases outs with
  |nil=>exact absurd rfl C1
  |cons x r=>exact ⟨x,rfl⟩
 obtain ⟨x0,_,_⟩:=V2 0 m0 O7
 haveI:Inhabited (SM w g):=⟨x0⟩
 obtain ⟨d,K2,M2⟩:∃d:Array (SM w g),d.toList.map (·.m)=outs/\∀j,j<d.size->∀c,c<4->w.cell? ⟨g,j*4+c,none⟩=some (Qmb d[j]!)[c]! :=by
  refine ⟨(List.ofFn fun j:Fin outs.length=>Classical.choose (V2 j.val _ (Ub j.isLt))).toArray,?_,fun j hj c hc=>?_⟩
  ·rw[List.toList_toArray,List.map_ofFn];refine List.ext_getElem? fun i=>?_;rw[List.getElem?_ofFn]
   by_cases hi:i<outs.length
   ·rw[dif_pos hi,Ub hi];exact congrArg some (Classical.choose_spec (V2 i _ (Ub hi))).1
   ·rw[dif_neg hi,Tk (by omega)]
  ·have WT:j<outs.length:=(by simpa using hj);have e:(List.ofFn fun j:Fin outs.length=>Classical.choose (V2 j.val _ (Ub j.isLt))).toArray[j]! =Classical.choose (V2 j _ (Ub WT)):=by
    rw[getElem!_pos _ j hj];simp
   rw[e];exact (Classical.choose_spec (V2 j _ (Ub WT))).2 c hc
 have hdn:d.size=n:=by rw[<-h.len,<-K2,UQ,Xbc]
 have hH:HoldsK Qmb 4 w g 0 d:=by
  intro t ht;rw[size_flatK] at ht;rw[get_flatK _ _ _ t ht,UB];have h1:=M2 (t / 4) (by omega) (t%4) (TG _ (by decide));rw[show t / 4*4+t%4=t by omega] at h1;exact ⟨h1,Z8.1.frozen0 t⟩
 have P5:CmpLays Tryz.prog 88 #[] (Qmb (w:=w) (blk:=g)) 4 cfM g 0 d.size w:=by
  intro m os dk _ x y;have hs:=Qac (Qmb (w:=w) (blk:=g)) 4 w g 0 m dk os;have hc:=fun p h1 h2=>Qeb (Qmb (w:=w) (blk:=g)) 4 w g 0 m dk os (p:=p) h1 h2;refine (Qci _ _ _ _ _ _ _ _ _ _ _ _ _ _ _ (x.ints hs hc) (y.ints hs hc)).mono ?_;rintro e w' ⟨rfl,rfl⟩;exact ⟨rfl,0,_,by rw[alloc_eq_grow,alloc_eq_grow,grow_grow];rfl⟩
 have X4:=AnyQ.slices_SortFunc Tryz.J1b 4 (fun w=>by kernel_rfl) (fun w=>by kernel_rfl) (Qmb (w:=w) (blk:=g)) Qu4 Qu5 cfM Qu6 88 #[] g 0 c d w eg P5 hH hg.2 (by omega);rw[hdn] at X4;refine Xba (show Calls Tryz.prog 138 _ _ _ from X4) ?_;rintro e w' ⟨rfl,d',k,os,hp,hs,rfl⟩;have hperm:d'.toList.Perm d.toList:=by
  have h1:=hp.2.2;have e1:(d'.extract 0 n)=d':=by rw[show n=d'.size by rw[hp.1,hdn],Array.extract_size]
  have e2:(d.extract 0 n)=d:=by rw[<-hdn,Array.extract_size]
  rwa[e1,e2] at h1
 have hdsz:d'.size=n:=by rw[hp.1,hdn]
 have Kv:(d'.toList.map (·.m)).Perm outs:=by rw[<-K2];exact hperm.map _
 have hH':=holdsK_sortWorldK (Qmb (w:=w) (blk:=g)) 4 w g 0 k d d' os hg.2 hH hp.1;have Yi:=Qac (Qmb (w:=w) (blk:=g)) 4 w g 0 k d' os;have hce:=fun p h1 h2=>Qeb (Qmb (w:=w) (blk:=g)) 4 w g 0 k d' os (p:=p) h1 h2;refine ⟨rfl,d'.toList.map (·.m),⟨by rw[UQ,Xbc,hdsz],V3.1,by have:=V3.2;simpa[maxLen] using this,.inr ⟨g,0,rfl,Ue hg.2 Yi,fun j m hm=>?_⟩⟩,Kv,?_,rfl,rfl,rfl,Yi,fun i hi=>Qec _ _ _ _ _ _ _ _ (by omega) (by omega)⟩
 ·have hj:j<d'.size:=by have:=(Um.1 hm).1;simpa using this
  have Jn:d'[j]!.m=m:=by
   rw[UT,UW,UD hj] at hm;rw[getElem!_pos d' j hj];simpa using hm
  have hc:=fun c (hc:c<4)=>(hH'.cell hj hc).1;have hb:=X5 m (Kv.mem_iff.1 (Ud hm));have hwx:WordsIn (sortWorldK (Qmb (w:=w) (blk:=g)) 4 w g 0 k d' os) d'[j]!.aw d'[j]!.lw d'[j]!.cw d'[j]!.m.ws:=by
   have hw:=d'[j]!.hw;refine ⟨hw.len,hw.cap,hw.most,hw.low,?_⟩;rcases Z8.off hw with h0|ho
   ·exact .inl h0
   rcases hw.rd with h0|⟨b,o,e,F3,Y2⟩
   ·exact .inl h0
   ·exact .inr ⟨b,o,e,Ue F3 Yi,fun i x hx=>(hce ⟨b,o+i,none⟩ F3 (fun e2=>ho _ e ⟨_,rfl,e2.symm⟩)).trans (Y2 i x hx)⟩
  subst Jn;exact ⟨_,_,_,_,_,_,hc 0 (by decide),hc 1 (by decide),hc 2 (by decide),hc 3 (by decide),hwx,d'[j]!.ints Yi hce,by omega,by omega⟩
 ·rw[Xa8,List.pairwise_iff_getElem];intro i j hi hj Wf;have h1:=hs i j (Uu _) Wf (by have:j<d'.size:=(by simpa using hj);omega)
  have Qe:i<d'.size:=by simpa using hi
  have WT:j<d'.size:=by simpa using hj
  rw[getElem!_pos d' i Qe,getElem!_pos d' j WT] at h1;unfold ltOf cfM at h1;rw[Xak] at h1;simpa using h1
theorem Qu8 {B n c:Nat} {w:World} {a:OA} {outs:List Q01} (h:Q19 B w a n c outs) (hn:n<=1000) (X5:∀m∈outs,-65536<=m.exp/\m.exp<=65536):
 Calls Tryz.prog 138 #[.slice a n c,.func (.func 88) #[] #[]] w fun r w'=>r=.returned (.tuple #[])/\
  ∃outs',Q08 w' a n c outs'/\outs'.Perm outs/\outs'.Pairwise (fun p q=>¬Q2u p.es q.es<0)/\Below B w w':=by
 obtain ⟨xs,hr⟩:=h.row;rcases hr.1.form with ⟨h0,h1⟩|⟨g,cur,h0,_⟩
 ·subst h0;obtain ⟨rfl,rfl⟩:n=0/\c=0:=by omega
  have ho:outs=[]:=Tg h.len;subst ho;have X4:=AnyF.slices_SortFunc_none Tryz.J1b none 0 (.func (.func 88) #[] #[]) w;refine Xba (show Calls Tryz.prog 138 _ _ _ from X4) ?_;rintro e w' ⟨rfl,rfl⟩;exact ⟨rfl,[],⟨rfl,Ug _,by decide,.inl rfl⟩,List.Perm.refl _,List.Pairwise.nil,Uf _ _⟩
 ·subst h0;exact Qu7 h hn X5
theorem Qwn {k:Nat} {l:List Q0a} {all outs outs':List Q01} (Z3:1<=k) (Y4:k<=4) (G7:(Qaq l).Perm (Q23 l)) (D7:¬(Q23 l).any (fun p=> !Q69 p.1)=true) (h:all.map Q01.term=Qaq l) (ho:outs.map Q01.term=(all.map Q01.term).filter (fun p=>decide (p.1≠0))) (WM:outs.length<=24) (hp:outs'.Perm outs) (hs:outs'.Pairwise (fun p q=>¬Q2u p.es q.es<0)) (D3:∀m∈outs,OkM k m):
 Q24 l=.ok (outs'.map Q01.term)/\Q0z k outs':=by
 have hl:outs.length=((Q23 l).filter fun p=>decide (p.1≠0)).length:=by
  rw[<-UQ (f:=Q01.term),ho,h];exact (G7.filter _).length_eq
 have hpt:(outs'.map Q01.term).Perm ((Q23 l).filter fun p=>decide (p.1≠0)):=by
  refine (hp.map _).trans ?_;rw[ho,h];exact G7.filter _
 have hD:Qbh ((Q23 l).filter fun p=>decide (p.1≠0)):=List.Pairwise.filter _ (Q6z l).1;have C1:(outs'.map Q01.term).Pairwise fun p q=>p.2≠q.2:=hpt.symm.pairwise hD.once (fun {p q} h e=>h e.symm);have hd:outs'.Pairwise fun p q=>0<Q2u p.es q.es:=by
  rw[Xa8] at C1;refine (hs.and C1).imp fun {p q} h=>?_;have e0:Q2u p.es q.es≠0:=fun e=>h.2 ((Q7i _ _).1 e);have:=h.1;omega
 have hD':Qbh (outs'.map Q01.term):=by
  unfold Qbh;rw[Xa8];exact hd
 refine ⟨?_,Z3,Y4,by rw[hp.length_eq];exact WM,fun m hm=>D3 m (hp.mem_iff.1 hm),hd⟩;unfold Q24;rw[Uq D7,Uq (by rw[<-hl];omega)];exact congrArg _ (Qbh.same hD hD' fun p=>(hpt.mem_iff).symm)
theorem Q19.exps {B n c k:Nat} {w:World} {a:OA} {outs:List Q01} (h:Q19 B w a n c outs) (D3:∀m∈outs,OkM k m):∀m∈outs,-65536<=m.exp/\m.exp<=65536:=by
 intro m hm;obtain ⟨j,hj,rfl⟩:=Xay hm;obtain ⟨g,_,aw,lw,cw,be,oe,le,ce,_,_,_,_,hw,_⟩:=h.ent j _ (Ub hj);exact (Q67 (D3 _ hm).1.2 hw.low).2
end Go.Proofs.YtdilmfakkppgpaaGreatDoor
