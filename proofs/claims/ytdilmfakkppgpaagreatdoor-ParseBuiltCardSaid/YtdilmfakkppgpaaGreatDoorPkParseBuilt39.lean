/- Part 39 of the proof of LawParseBuilt: RefParse, RefSame, ParseBackW, BuiltW. Condition: as each theorem says; none at the end. -/
import Derived.Test.YtdilmfakkppgpaaGreatDoorPkParseBuilt36
import Derived.Test.YtdilmfakkppgpaaGreatDoorPkParseBuilt38
set_option maxRecDepth 100000
set_option maxHeartbeats 16000000
namespace Go.Proofs.YtdilmfakkppgpaaGreatDoor
open Go.RowKit WordsM DecM
mutual
theorem four_size (a b c d:UInt8):(⟨#[a,b,c,d]⟩:ByteArray).size=4:=rfl
theorem Qla:∀(x:Ex),Q1i x≠[]
 | .num c=>by rw[Q1i];simp
 | .var i=>by rw[Q1i];simp
 | .sum []=>by rw[Q1i];simp
 | .prod []=>by rw[Q1i];simp
 | .sum ((b,x)::r)=>by
   rw[Q1i,Q4x];intro h;exact Qla x (List.append_eq_nil_iff.1 h).1
 | .prod (x::r)=>by
   rw[Q1i,Q5m];intro h;exact Qla x (List.append_eq_nil_iff.1 h).1
 | .pow b k=>by rw[Q1i];simp
end
theorem Qow:Tryz.prog.underlying 113=some (.slice 110):=by kernel_rfl
theorem Qv7:(Tryz.prog.info? 110).map (fun i=>(i.zero,i.size,i.bytes))=some (some (.slice none 0 0),1,24):=by kernel_rfl
theorem Qsu (ty:TypeId) (B:Nat) (W:World) (hB:B<=W.heap.size) (a:OA) (n c:Nat) (xs:LV) (hr:Row W B 3 1 a n c xs) (bl:Nat) {z:Int} (F3:W.heap[bl]?=some (.cells #[.int .i64 z] 3 (0,0))) (hn:n<=1000):
 ∃a' c' w',(Builtin.append_ #[42,42] ty #[.slice a n c,.slice (some ⟨bl,0,none⟩) 1 1]).run Tryz.prog W=.ok (.slice a' (n+1) c') w'/\Row w' B 3 1 a' (n+1) c' (xs++[.int .i64 z])/\W.grownBy w' (a.map (·.block)):=by
 obtain ⟨i0,O1,P1,K1,J1⟩:=Q0l Q47;obtain ⟨a',c',w',I1,I0,m7,N0,_⟩:=Q1u W W ty 42 3 i0 _ 1 8 Tryz.underlying42 O1 P1 K1 J1 rfl (by decide) B (Uf _ _) hB a n c xs hr ⟨bl,0,none⟩ 1 1 [.int .i64 z] rfl (fun j u hj=>by
  rw[Xao,UB,Ux _ _ _ _ _ _ F3];simpa using hj) (fun u hu=>by
  simp only[UF,List.not_mem_nil,or_false] at hu;rw[hu];rfl) (n+1) rfl (by omega) (by omega)
 exact ⟨a',c',w',I1,I0,m7⟩
theorem Qmv {w w':World} {B:Nat} {e:TypeId} {k:Nat} {a:OA} {n c:Nat} {xs:LV} (h:Row w B e k a n c xs) (hk:∀x,a=some x->w'.heap[x.block]?=w.heap[x.block]?):Row w' B e k a n c xs:=by
 refine ⟨h.1,?_⟩;rcases h.2 with h2|⟨g,cap,cur,hv,hg,hh,hr⟩
 ·exact .inl h2
 ·refine .inr ⟨g,cap,cur,hv,hg,(hk ⟨g,0,none⟩ ?_).trans hh,hr⟩;injection hv with e1
structure PLs (wx:World) (B:Nat) (a9:OA) (c9:Nat) (a8:OA) (c8:Nat) (acc:List (Nat × Ex)) (vs:LV):Prop where
 fr:Row wx B 3 1 a9 acc.length c9 (acc.map fun z=>zv (z.1:Int))
 al:Q3d Sl wx B 110 1 a8 acc.length c8 vs
 ops:∀(i:Nat) (z:Nat × Ex),acc[i]?=some z->∃(g m c:Nat) (xs:LV),vs[i]?=some (.slice (some ⟨g,0,none⟩) m c)/\m<=1000000/\Q3d Quv wx B 170 3 (some ⟨g,0,none⟩) m c xs/\Q2g (Q1i z.2) xs
theorem PLs.keep {wx wy:World} {B:Nat} {a9 a8:OA} {c9 c8:Nat} {acc:List (Nat × Ex)} {vs:LV} (h:PLs wx B a9 c9 a8 c8 acc vs) (hk:∀k,B<=k->k<wx.heap.size->wy.heap[k]?=wx.heap[k]?):PLs wy B a9 c9 a8 c8 acc vs:=by
 refine ⟨Qmv h.fr fun x hx=>?_,h.al.keep fun x hx=>?_,fun i z hz=>?_⟩
 ·have:=Q19.lt.row2_blk h.fr hx;exact hk _ this.1 this.2
 ·have:=Q19.lt.row2_blk h.al.1 hx;exact hk _ this.1 this.2
 ·obtain ⟨g,m,c,xs,h1,h2,h3,h4⟩:=h.ops i z hz;refine ⟨g,m,c,xs,h1,h2,h3.keep fun x hx=>?_,h4⟩;have:=Q19.lt.row2_blk h3.1 hx;exact hk _ this.1 this.2
theorem PLs.step {wx wy:World} {B:Nat} {a9 a8:OA} {c9 c8:Nat} {acc:List (Nat × Ex)} {vs:LV} (h:PLs wx B a9 c9 a8 c8 acc vs) (hb:Bw wx wy):PLs wy B a9 c9 a8 c8 acc vs:=h.keep fun k _ hk=>hb.block k hk
theorem PLs.turn {wx wy:World} {R B B':Nat} {a9 a8:OA} {c9 c8:Nat} {acc:List (Nat × Ex)} {vs:LV} (h:PLs wx B a9 c9 a8 c8 acc vs) (ht:Q0f (OnN R B') wx wy) (hR:R<B) (hB:wx.heap.size<=B'):PLs wy B a9 c9 a8 c8 acc vs:=h.keep fun k h1 h2=>ht.block k h2 (fun e=>by rcases e with e|e <;> omega)
theorem PLs.rows {wx wy:World} {B:Nat} {a9 a8:OA} {c9 c8:Nat} {acc:List (Nat × Ex)} {vs:LV} (h:PLs wx B a9 c9 a8 c8 acc vs) (hg:wx.grownBy wy (a9.map (·.block))):Q3d Sl wy B 110 1 a8 acc.length c8 vs/\∀(i:Nat) (z:Nat × Ex),acc[i]?=some z->∃(g m c:Nat) (xs:LV),vs[i]?=some (.slice (some ⟨g,0,none⟩) m c)/\m<=1000000/\Q3d Quv wy B 170 3 (some ⟨g,0,none⟩) m c xs/\Q2g (Q1i z.2) xs:=by
 refine ⟨h.al.keep fun x hx=>?_,fun i z hz=>?_⟩
 ·exact hg.block _ (Q19.lt.row2_blk h.al.1 hx).2 (Row.ne h.al.1 h.fr (by decide) x hx)
 ·obtain ⟨g,m,c,xs,h1,h2,h3,h4⟩:=h.ops i z hz;refine ⟨g,m,c,xs,h1,h2,h3.keep fun x hx=>?_,h4⟩;exact hg.block _ (Q19.lt.row2_blk h3.1 hx).2 (Row.ne h3.1 h.fr (by decide) x hx)
structure Qox (wx:World) (B:Nat) (a9:OA) (c9:Nat) (a8:OA) (c8:Nat) (acc:List (Nat × Ex)) (p:Nat) (vs:LV):Prop where
 fr:Row wx B 3 1 a9 (acc.length+1) c9 ((acc.map fun z=>zv (z.1:Int))++[.int .i64 (p:Int)])
 al:Q3d Sl wx B 110 1 a8 acc.length c8 vs
 ops:∀(i:Nat) (z:Nat × Ex),acc[i]?=some z->∃(g m c:Nat) (xs:LV),vs[i]?=some (.slice (some ⟨g,0,none⟩) m c)/\m<=1000000/\Q3d Quv wx B 170 3 (some ⟨g,0,none⟩) m c xs/\Q2g (Q1i z.2) xs
theorem Qox.keep {wx wy:World} {B:Nat} {a9 a8:OA} {c9 c8 p:Nat} {acc:List (Nat × Ex)} {vs:LV} (h:Qox wx B a9 c9 a8 c8 acc p vs) (hk:∀k,B<=k->k<wx.heap.size->wy.heap[k]?=wx.heap[k]?):Qox wy B a9 c9 a8 c8 acc p vs:=by
 refine ⟨Qmv h.fr fun x hx=>?_,h.al.keep fun x hx=>?_,fun i z hz=>?_⟩
 ·have:=Q19.lt.row2_blk h.fr hx;exact hk _ this.1 this.2
 ·have:=Q19.lt.row2_blk h.al.1 hx;exact hk _ this.1 this.2
 ·obtain ⟨g,m,c,xs,h1,h2,h3,h4⟩:=h.ops i z hz;refine ⟨g,m,c,xs,h1,h2,h3.keep fun x hx=>?_,h4⟩;have:=Q19.lt.row2_blk h3.1 hx;exact hk _ this.1 this.2
theorem Qox.step {wx wy:World} {B:Nat} {a9 a8:OA} {c9 c8 p:Nat} {acc:List (Nat × Ex)} {vs:LV} (h:Qox wx B a9 c9 a8 c8 acc p vs) (hb:Bw wx wy):Qox wy B a9 c9 a8 c8 acc p vs:=h.keep fun k _ hk=>hb.block k hk
theorem Qox.turn {wx wy:World} {R B B':Nat} {a9 a8:OA} {c9 c8 p:Nat} {acc:List (Nat × Ex)} {vs:LV} (h:Qox wx B a9 c9 a8 c8 acc p vs) (ht:Q0f (OnN R B') wx wy) (hR:R<B) (hB:wx.heap.size<=B'):Qox wy B a9 c9 a8 c8 acc p vs:=h.keep fun k h1 h2=>ht.block k h2 (fun e=>by rcases e with e|e <;> omega)
theorem Qox.next {wx:World} {B:Nat} {a9 a8:OA} {c9 c8 p:Nat} {acc:List (Nat × Ex)} {vs:LV} (h:Qox wx B a9 c9 a8 c8 acc p vs) (hB:B<=wx.heap.size) (h4:acc.length<=4) {x:Ex} {g m c:Nat} {ys:LV} (hm:m<=1000000) (hr:Q3d Quv wx B 170 3 (some ⟨g,0,none⟩) m c ys) (ho:Q2g (Q1i x) ys) (ty:TypeId):
 ∃a' c' w',(Builtin.append_ #[113,113] ty #[.slice a8 acc.length c8,.slice (some ⟨wx.heap.size,0,none⟩) 1 1]).run Tryz.prog (wx.alloc (.cells #[.slice (some ⟨g,0,none⟩) m c] 110))=.ok (.slice a' (acc.length+1) c') w'/\PLs w' B a9 c9 a' c' (acc++[(p,x)]) (vs++[.slice (some ⟨g,0,none⟩) m c])/\(wx.alloc (.cells #[.slice (some ⟨g,0,none⟩) m c] 110)).grownBy w' (a8.map (·.block)):=by
 obtain ⟨i0,O1,P1,K1,J1⟩:=Q0l Qv7;have T4:Bw wx (wx.alloc (.cells #[.slice (some ⟨g,0,none⟩) m c] 110)):=Ba;have hA:=h.step T4;obtain ⟨g6,c6,w6,R3,M1,D1,F5⟩:=Q12 (P:=Tryz.prog) Sl (wx.alloc (.cells #[.slice (some ⟨g,0,none⟩) m c] 110)) 113 ty 110 i0 _ 1 24 Qow O1 P1 K1 J1 rfl (by intro u hu;simp[Value.cells] at hu;subst hu;exact ⟨_,_,_,rfl⟩) B (Ur hB T4.size) a8 acc.length c8 vs hA.al wx.heap.size 1 1 [.slice (some ⟨g,0,none⟩) m c] rfl (TA (cs:= #[.slice (some ⟨g,0,none⟩) m c]) (Ul _ _)) (by simp[Value.oneCell']) (by intro u hu;simp at hu;subst hu;exact ⟨_,_,_,rfl⟩) (by decide) (by omega) (by decide) (by decide);have Jt:vs.length=acc.length:=by have:=h.al.1.len;omega
 refine ⟨_,c6,w6,R3,⟨?_,?_,fun i z hz=>?_⟩,D1⟩
 ·have:=hA.fr.grown D1 (Row.ne hA.fr hA.al.1 (by decide));simpa[zv] using this
 ·simpa using M1
 ·have Jf:∀{g' m' c':Nat} {xs':LV},Q3d Quv wx B 170 3 (some ⟨g',0,none⟩) m' c' xs'->Q3d Quv w6 B 170 3 (some ⟨g',0,none⟩) m' c' xs':=fun h3=>(h3.step T4).keep fun x hx=>D1.block _ (Q19.lt.row2_blk (h3.step T4).1 hx).2 (Row.ne (h3.step T4).1 hA.al.1 (by decide) x hx)
  by_cases hi:i<acc.length
  ·rw[Tx hi] at hz;obtain ⟨g',m',c',xs',h1,h2,h3,h4⟩:=h.ops i z hz;exact ⟨g',m',c',xs',by rw[Tx (by omega)];exact h1,h2,Jf h3,h4⟩
  ·have A6:i=acc.length:=by
    have:=(Um.1 hz).1;rw[Uj] at this;simp at this;omega
   rw[Tq (by omega),A6,Xbp] at hz;simp only[UI,Un] at hz;subst hz;exact ⟨g,m,c,ys,by rw[Tq (by omega),A6,Jt,Xbp];rfl,hm,Jf hr,ho⟩
theorem Qoy {L:LU} {i:Nat} (h:i<L.length):(L.take (i+1)).count 10=(L.take i).count 10+(if L[i]=10 then 1 else 0):=by
 rw[Tc,Ub h,Option.toList_some,Xaa,List.count_singleton];simp
def LX (L:LU) (most p:Nat) (acc:List (Nat × Ex)):Except Nat (List (Nat × Ex)):=if acc=[]∨p<L.length then Q3c L most (4-acc.length) p acc else .ok acc
def Qz8 (w:World) (s:ByteArray) (most:Nat) (Y:Except Nat (List (Nat × Ex))) (s8 s9 s10:Value) (wr:World):Prop:=∃(J p:Nat) (acc:List (Nat × Ex)) (a9:OA) (c9:Nat) (a8:OA) (c8:Nat) (vs:LV) (bad:Int) (a:OA) (m c:Nat),
 s8=.slice a8 acc.length c8/\s9=.slice a9 acc.length c9/\s10=.int .i64 (J:Int)/\J=acc.length+1/\acc.length<=4/\p<=s.size/\Y=LX s.data.toList most p acc/\Q8u wr w.heap.size s (p:Int) (most:Int) 0 bad a m c/\PLs wr (w.heap.size+1) a9 c9 a8 c8 acc vs/\w.heap.size+1<=wr.heap.size/\Bw w wr
theorem Qx5 {L:LU} {most p q:Nat} {acc:List (Nat × Ex)} {x:Ex} (hc:acc=[]∨p<L.length) (h4:acc.length<4) (hl:Q8i L most acc.length p=.ok (x,q)):LX L most p acc=LX L most q (acc++[(p,x)]):=by
 unfold LX;rw[Us hc];obtain ⟨f,hf⟩:∃f,4-acc.length=f+1:=⟨3-acc.length,by omega⟩;rw[hf,Q3c,hl];simp only[Uj,Uz,Xan];rw[show 4-(acc.length+(0+1))=f by omega]
 by_cases hq:q<L.length
 ·rw[Us hq,Us (.inr hq)]
 ·rw[Uq hq,Uq (by simp[hq])]
theorem Qyj {L:LU} {most p e:Nat} {acc:List (Nat × Ex)} (hc:acc=[]∨p<L.length) (h4:acc.length<4) (hl:Q8i L most acc.length p=.error e):LX L most p acc=.error e:=by
 unfold LX;rw[Us hc];obtain ⟨f,hf⟩:∃f,4-acc.length=f+1:=⟨3-acc.length,by omega⟩;rw[hf,Q3c,hl]
theorem Q8u.grown {w w':World} {R:Nat} {s:ByteArray} {p n d bad:Int} {a:OA} {m c:Nat} (h:Q8u w R s p n d bad a m c) {row:Option Nat} (hg:w.grownBy w' row) (hr:∀r,row=some r->r≠R):Q8u w' R s p n d bad a m c:=
 h.turn (fp:=fun b=>row=some b) (Q0f.of_grown hg fun r hr _=>hr) (fun e=>hr R e rfl)
theorem Qb2 {w W W':World} {row:Option Nat} (hb:Bw w W) (hg:W.grownBy W' row) (hr:∀r,row=some r->w.heap.size<=r):Bw w W':=hb.grown hg hb.size hr
theorem Qj7 (L:LU) (most:Nat) (h:most=min (L.count 10) 4):Q4d L=Qmi (Q3c L most 4 0 []):=by rw[Qav,h]
theorem Qfx (s:ByteArray) (w:World) (hs:s.size<=1000000):
 Calls Tryz.prog 41 #[.string s] w (Q4w w (Q4d s.data.toList)):=by
 obtain ⟨most,JW⟩:∃most,most=min (s.data.toList.count 10) 4:=⟨_,rfl⟩;obtain ⟨X,hX⟩:∃X,Q4d s.data.toList=X:=⟨_,rfl⟩;obtain ⟨Y,hY⟩:∃Y,Q3c s.data.toList most 4 0 []=Y:=⟨_,rfl⟩;have hXY:X=Qmi Y:=by rw[<-hX,Qj7 _ _ JW,hY]
 have V9:∀l,Y=.ok l->1<=l.length/\l.length<=4/\∀z∈l,Q32 l.length z.2:=fun l h=>Qe4 (by rw[<-JW,hY];exact h);rw[hX];have YV:most<=4:=by omega
 have H:=Xh4 hXY V9 hY JW;clear hXY V9 hX hY JW
 go_enter Tryz.func41,Tryz.ntmps41
 go_wp2_with fail
 go_loopw [5,6] (fun s5 s6 wr=>∃(i M:Nat),s5=.int .i64 (M:Int)/\s6=.int .i64 (i:Int)/\i<=s.size/\(s.data.toList.take i).count 10=M/\M<=i/\w=wr) (fun _ iv _=>s.size-(intOf iv).toNat)
 case atStart=>exact ⟨0,0,rfl,rfl,Uu _,rfl,Ug _,rfl⟩
 case round=>
  obtain ⟨i,M,rfl,rfl,hi,hM,hMi,rfl⟩:=hrel
  by_cases B0:i<s.size
  ·have E0:(i:Int)<(s.size:Int):=(by omega);have hct:=Qoy (L:=s.data.toList) (i:=i) B0;rw[hM] at hct
   by_cases u9:s[i]'B0=10
   ·have L6:(((s[i]'B0).toNat:Int)==10)=true:=(by rw[u9];rfl);have Vr:s.data.toList[i]'B0=10:=u9;rw[Us Vr] at hct;have HS:=Ua hct;clear hct u9 Vr hM
    go_wp2_with fail
    exact ⟨⟨i+1,M+1,congrArg (Value.int .i64) (by omega),congrArg (Value.int .i64) (by omega),B0,HS.out,by omega,trivial⟩,by simp only[intOf];omega⟩
   ·have L6:(((s[i]'B0).toNat:Int)==10)=false:=(by rw[Qda (c:=10) (k:=10) rfl];exact UL u9);have Vr:¬s.data.toList[i]'B0=10:=u9;rw[Uq Vr] at hct;have HS:=Ua hct;clear hct u9 Vr hM
    go_wp2_with fail
    exact ⟨⟨i+1,M,rfl,congrArg (Value.int .i64) (by omega),B0,HS.out,by omega,trivial⟩,by simp only[intOf];omega⟩
  ·have E0:¬(i:Int)<(s.size:Int):=(by omega);have A6:i=s.data.toList.length:=by show i=s.size;omega
   rw[A6,Ta] at hM;have Qz:min (M:Int) 4=(most:Int):=(by have:=(Xe3 H);omega);clear A6 hM
   go_upto_region 8 with fail
   obtain ⟨W0,I3⟩:∃W0,w.alloc (.cells #[.string s,.int .i64 0,.int .i64 (most:Int),.int .i64 0,.int .i64 (-1),.slice none 0 0] 112)=W0:=⟨_,rfl⟩;have C4:Bw w W0:=(by rw[<-I3];exact Ba);have Zs:W0.heap.size=w.heap.size+1:=(by rw[<-I3,Uo]);have hbox:Q8u W0 w.heap.size s ((0:Nat):Int) (most:Int) 0 (-1) none 0 0:=by
    have hh:W0.heap[w.heap.size]?=some (.cells #[.string s,.int .i64 0,.int .i64 (most:Int),.int .i64 0,.int .i64 (-1),.slice none 0 0] 112 (0,0)):=(by rw[<-I3];exact Ul _ _);have hf:∀j,W0.frozen? ⟨w.heap.size,j,none⟩=false:=fun j=>TC _ _ _ _ _ hh;refine ⟨?_,?_,?_,?_,?_,?_,hf 0,hf 1,hf 2,hf 3,hf 4,hf 5,by rw[Zs];exact TB _⟩ <;> (rw[Ux _ _ _ _ _ _ hh];rfl)
   have HB:=Xh3 C4 Zs hbox;rw[I3];clear C4 Zs hbox I3 E0
   go_wp2_with fail
   go_loopw [8,9,10] (fun s8 s9 s10 wr=>Qz8 w s most Y s8 s9 s10 wr) (fun _ _ iv _=>6-(intOf iv).toNat)
   case atStart=>
    refine ⟨1,0,[],none,0,none,0,[],-1,none,0,0,rfl,rfl,rfl,rfl,Uu _,Uu _,?_,(Xe2 HB),⟨Row.nil_ _ _ _ _,Q3d.nil_ _ _ _ _ _,fun i z h=>by simp at h⟩,by rw[(Xo1 HB)];exact Ug _,(Xo0 HB)⟩;rw[<-(Xo2 H)];rfl
   case round=>
    obtain ⟨J,p,acc,a9,c9,a8,c8,vs,bad,a,m,c,rfl,rfl,rfl,hJ,h4,hp,hYL,C2,Qb,Z1,Q0⟩:=hrel;obtain ⟨n,hn⟩:∃n,acc.length=n:=⟨_,rfl⟩;rw[hn] at hJ h4;have HN:=Xh2 hn hJ;rw[hn];have hJ5:J<=5:=(by omega);clear hJ;obtain ⟨bb,E3⟩:∃bb,decide (acc=[]∨p<s.data.toList.length)=bb:=⟨_,rfl⟩;have k1:=C2.c1;have HR:=Xh6 hYL C2 Qb Z1 Q0 E3;clear hYL C2 Qb Z1 Q0 E3 hn
    go_upto_region 11 with fail
    go_cut [42] (fun v wx=>v=.bool bb/\wr=wx)
    case first=>
     by_cases d8:n=0
     ·have hJ1:((J:Int)==1)=true:=(by have:=(Xe1 HN);rw[beq_iff_eq];omega);have KM:bb=true:=by
       rw[<-(Xe5 HR)];exact UU (.inl (Tg ((Xo0 HN).trans d8)))
      subst KM;clear d8
      go_wp2_with fail
      go_meet;exact ⟨rfl,rfl⟩
     ·have hJ1:((J:Int)==1)=false:=(by have:=(Xe1 HN);rw[Ui];omega);have KM:bb=decide (p<s.size):=by
       rw[<-(Xe5 HR)];have C1:acc≠[]:=fun e=>d8 (by rw[<-(Xo0 HN),e];rfl)
       by_cases QZ:p<s.size
       ·rw[UU (.inr QZ),UU QZ]
       ·rw[UL (fun e=>by rcases e with e|e;exact C1 e;exact QZ e),UL QZ]
      have HBT:=Ua KM;clear d8 KM
      go_wp2_with fail
      go_meet;exact ⟨congrArg Value.bool HBT.out.symm,rfl⟩
    case rest=>
     obtain ⟨rfl,rfl⟩:=hcut
     rename World=>wr
     cases ZH:bb with
     |true=>
      subst ZH;have Qi:=Xab (Xe5 HR)
      by_cases h5:n=4
      ·have hJ4:(4:Int)<(J:Int):=(by have:=(Xe1 HN);omega);have hY4:Y=.error p:=by
        rw[(Xo0 HR)];unfold LX;rw[Us Qi,show 4-acc.length=0 by have:=(Xo0 HN);omega];rfl
       have hX4:X=.error (p,5):=(by rw[(Xo0 H),hY4];rfl);have HX:=Ua hX4;clear hX4 hY4 Qi h5
       go_upto_region 14 with fail
       go_quiet (fail)
       go_wp2_with fail
       exact ⟨rfl,.tuple #[.slice none 0 0,.int .i64 (p:Int),.int .i64 5],by simp[results,go_sem],Q4w.err HX.out (Below.drewN' (Xo4 HR) _)⟩
      ·have hJ4:¬(4:Int)<(J:Int):=(by have:=(Xe1 HN);omega);have T4:Bw wr (wr.alloc (.cells #[.int .i64 (p:Int)] 3)):=Ba;have WB:=(Xo2 HR).step T4;have hlN:=(Xo0 HN);obtain ⟨a6,c6,w6,R3,M1,D1⟩:=Qsu 42 (w.heap.size+1) (wr.alloc (.cells #[.int .i64 (p:Int)] 3)) (Ur (Xo3 HR) T4.size) a9 acc.length c9 _ WB.fr wr.heap.size (Ul _ _) (by omega);have VN:Qox w6 (w.heap.size+1) a6 c6 a8 c8 acc p vs:=⟨M1,(WB.rows D1).1,(WB.rows D1).2⟩;have Ze:∀r,a9.map (·.block)=some r->w.heap.size+1<=r:=fun r hr=>WB.fr.row_le r hr;have VX:=((Xo1 HR).step T4).grown D1 (fun r hr e=>by have:=Ze r hr;omega);have U2:=Qb2 (Qf5 (Xo4 HR) (.cells #[.int .i64 (p:Int)] 3)) D1 (fun r hr=>by have:=Ze r hr;omega);have hs6:w.heap.size+1<=w6.heap.size:=Ur (Xo3 HR) (Ur T4.size D1.size);have e5:=VX.c5;have f5:=VX.f5;have ZE:RSt (w6.setCell ⟨w.heap.size,5,none⟩ (.slice none 0 0)) w.heap.size w6.heap.size s (p:Int) (most:Int) 0 bad none 0 0 []:=⟨VX.setOps none 0 0,by omega,by rw[UV];exact Ug _,Q3d.nil_ _ _ _ _ _⟩;have hli:=Qst (i:=n) ZE hp hs (Uu _) (by omega);rw[show (n:Int)+1=(J:Int) by have:=(Xe1 HN);omega] at hli;obtain ⟨Z,hZ⟩:∃Z,Q8i s.data.toList most n p=Z:=⟨_,rfl⟩;rw[hZ] at hli;rw[hlN] at R3;have KE:Bw w (w6.setCell ⟨w.heap.size,5,none⟩ (.slice none 0 0)):=U2.setCell (p:=⟨w.heap.size,5,none⟩) (Ug _) _;have HL:=Xh8 hli hZ (show Qox (w6.setCell ⟨w.heap.size,5,none⟩ (.slice none 0 0)) (w.heap.size+1) a6 c6 a8 c8 acc p vs from VN.keep fun k h1 h2=>TE w6 ⟨w.heap.size,5,none⟩ (.slice none 0 0) k (by show k≠w.heap.size;omega)) trivial KE hs6 Qi VX;clear hli hZ M1 VN KE hs6 Qi VX ZE U2 Ze D1 WB T4 hlN
       go_upto_region 16 with (at_builtin;refine Q07 rfl (.tmp 51) (.tmp 56) 42 42 rfl _ _ rfl rfl _ _ R3 ?_)
       clear k1 R3
       go_upto_region 17 with fail
       clear e5 f5;generalize hW7:w6.setCell ⟨w.heap.size,5,none⟩ (.slice none 0 0)=W7 at HL⊢;have HW7:=Ua hW7;clear hW7;cases Z with
       |error e=>
        have hX4:X=.error (e,5):=by
         rw[(Xo0 H),(Xo0 HR),Qyj (Xo6 HL) (by have:=(Xo0 HN);omega) (by rw[(Xo0 HN)];exact (Xo1 HL))];rfl
        have HX:=Ua hX4;clear hX4
        go_upto_region 18 with (go_at_call 75;refine (Xo0 HL).mono ?_;rintro r w8 ⟨F6,rfl,WU⟩;have H8:=Xh2 F6 WU;clear F6 WU)
        have k4:=(Xe1 H8)
        go_quiet (fail)
        go_wp2_with fail
        have Ya:Bw w w8:=Below.turn (Xo4 HL) (Xo0 H8) (Xo4 HL).size (fun k hk=>by rcases hk with hk|hk;omega;have:=(Xo5 HL);omega);exact ⟨rfl,.tuple #[.slice none 0 0,.int .i64 (e:Int),.int .i64 5],by simp[results,go_sem],Q4w.err HX.out (Below.drewN' Ya _)⟩
       |ok z=>
        obtain ⟨x,q⟩:=z
        go_upto_region 19 with (go_at_call 75;refine (Xo0 HL).mono ?_;rintro r w8 ⟨F6,rfl,bad8,a5,m5,c5,ys,XS,XO,D5⟩;have H8:=Xh4 F6 XS XO D5;clear F6 XS XO D5)
        have D5:=(Xe3 H8);rw[TW] at D5;have k5:=D5.box.c5;have u6:q<=s.size:=by
         obtain ⟨_,_,_,_,_,_,h⟩:=Qm5 (i:=n) (by omega) hp (Xo1 HL);exact h
        have hlen8:ys.length=m5*3:=D5.row.1.len;have O3:=Q2g.len (Xo1 H8);have hcne:=Xai.2 (Qla x);obtain ⟨g5,rfl,hg5,hg5l⟩:∃g,a5=some ⟨g,0,none⟩/\w6.heap.size<=g/\g<w8.heap.size:=by
         rcases D5.row.1.form with ⟨_,h0,_⟩|⟨g,cur,e1,h1,h2,_⟩
         ·omega
         ·exact ⟨g,e1,h1,h2⟩
        have hs7:W7.heap.size=w6.heap.size:=(by rw[<-HW7.out,UV]);have hpl8:=(Xo2 HL).turn (Xo0 H8) (by omega) (by omega);have hsz8:w6.heap.size<=w8.heap.size:=(by have:=(Xo0 H8).size;omega);have Z8:Q3d Quv w8 (w.heap.size+1) 170 3 (some ⟨g5,0,none⟩) m5 c5 ys:=⟨D5.row.1.lower (Xo5 HL),D5.row.2⟩;obtain ⟨a',c',w9,M6,hpl9,Qa⟩:=hpl8.next (by have:=(Xo5 HL);omega) (by have:=(Xo0 HN);omega) (x:=x) (by have:=(Xo2 H8);omega) Z8 (Xo1 H8) 113;rw[(Xo0 HN)] at M6;have Ya:Bw w w8:=Below.turn (Xo4 HL) (Xo0 H8) (Xo4 HL).size (fun k hk=>by rcases hk with hk|hk;omega;have:=(Xo5 HL);omega);have hrl8:∀r,a8.map (·.block)=some r->w.heap.size+1<=r:=fun r hr=>hpl8.al.1.row_le r hr;have hbx9:=(D5.box.step ((Uf _ _).alloc (Ug _) (.cells #[.slice (some ⟨g5,0,none⟩) m5 c5] 110))).grown Qa (fun r hr e=>by have:=hrl8 r hr;omega);have hbw9:=Qb2 (Qf5 Ya (.cells #[.slice (some ⟨g5,0,none⟩) m5 c5] 110)) Qa (fun r hr=>by have:=hrl8 r hr;omega);have hs9:w.heap.size+1<=w9.heap.size:=by
         have h1:=Qa.size;rw[Uo] at h1;have:=(Xo5 HL);omega
        have hYn:Y=LX s.data.toList most q (acc++[(p,x)]):=(by rw[(Xo0 HR)];exact Qx5 (Xo6 HL) (by have:=(Xo0 HN);omega) (by rw[(Xo0 HN)];exact (Xo1 HL)));have HF:=Xh6 hYn hbx9 hpl9 hs9 hbw9 u6;clear hYn hbx9 hpl9 hs9 hbw9 u6 hrl8 Ya Z8 hsz8 hpl8 D5 hlen8 O3 hcne hg5 hg5l Qa
        go_wp2_with (at_builtin;refine Q07 rfl (.tmp 69) (.tmp 74) 113 113 rfl _ _ rfl rfl _ _ M6 ?_)
        have hnl:(acc++[(p,x)]).length=n+1:=(by rw[Uj,(Xo0 HN)];rfl);exact ⟨⟨J+1,q,acc++[(p,x)],a6,c6,a',c',_,_,_,_,_,by rw[hnl],by rw[hnl],congrArg (Value.int .i64) (by omega),by rw[hnl];have:=(Xe1 HN);omega,by rw[hnl];omega,(Xe5 HF),(Xo0 HF),(Xo1 HF),(Xo2 HF),(Xo3 HF),(Xo4 HF)⟩,by simp only[intOf];omega⟩
     |false=>
      subst ZH;have Qi:=of_decide_eq_false (Xe5 HR);have hYk:Y=.ok acc:=by
       rw[(Xo0 HR)];unfold LX;rw[Uq Qi]
      obtain ⟨Z3,Y4,J9⟩:=(Xo1 H) acc hYk;have hXl:X=Q30 acc.length acc []:=(by rw[(Xo0 H),hYk];rfl);rw[(Xo0 HN)] at Z3 Y4 J9 hXl;have HX:=Xh2 hXl J9;clear hXl J9 hYk Qi k1;obtain ⟨g8,rfl⟩:∃g,a8=some ⟨g,0,none⟩:=by
       rcases (Xo2 HR).al.1.form with ⟨_,h0,_⟩|⟨g,cur,e1,_⟩
       ·have:=(Xo0 HN);omega
       ·exact ⟨g,e1⟩
      obtain ⟨g9,rfl⟩:∃g,a9=some ⟨g,0,none⟩:=by
       rcases (Xo2 HR).fr.form with ⟨_,h0,_⟩|⟨g,cur,e1,_⟩
       ·have:=(Xo0 HN);omega
       ·exact ⟨g,e1⟩
      obtain ⟨i0,O1,P1,K1,J1⟩:=Q0l Qag;have HI:=Xh4 O1 P1 K1 J1;clear O1 P1 K1 J1
      go_wp2_with fail
      rename World=>wl
      go_loopw [11,12] (fun s11 s12 wx=>Qi6 wl n acc s11 s12 wx) (fun _ iv _=>n-(intOf iv).toNat)
      case atStart=>exact ⟨0,none,0,[],[],rfl,rfl,Uu _,rfl,Q3d.nil_ _ _ _ _ _,(fun j ms h=>by simp at h),rfl,Uf _ _⟩
      case round=>
       obtain ⟨i,a1,c1,Fv,us,rfl,rfl,hi,Yw,I0,R1,O4,hbi⟩:=hrel;rw[(Xo0 HN)] at hi
       by_cases B0:i<n
       ·have E0:(i:Int)<(n:Int):=(by omega);obtain ⟨px,Wb⟩:∃px,acc[i]?=some px:=⟨_,Ub (by rw[(Xo0 HN)];exact B0)⟩;obtain ⟨p2,x⟩:=px;have Yn:=(Xo2 HR).step hbi;obtain ⟨g,m2,cc,xs2,C7,F9,Z8,QF⟩:=Yn.ops i _ Wb;have q0:=Yn.al.1.cell0 C7;have q1:wr.cell? ⟨g9,i,none⟩=some (.int .i64 (p2:Int)):=Yn.fr.cell0 (by rw[UT,Wb];rfl);have hgx:Q32 n x:=(Xe1 HX) _ (Ud Wb);obtain ⟨Z,hZ⟩:∃Z,Q16 n x=Z:=⟨_,rfl⟩;have hbg:g<wr.heap.size:=(Q19.lt.row2_blk Z8.1 rfl).2;have hlr:=Z8.1.len;have QF:Q2g (Q1i x) xs2:=QF;have q5:=Q2g.len QF;have C5:=Qfu g m2 cc (Q1i x) xs2 n wr Z QF (by omega) hbg (fun j u hj=>Z8.1.cell0 hj) F9 (Q9p n x hgx) Z3 Y4 (by rw[Qmq,hZ];cases Z <;> rfl) (Qv1 n x);have XI:=O4;rw[Qbk Wb,Q30,hZ] at XI;have HQ:=Xh7 Yw I0 R1 XI hbi C5 hZ;clear Yw I0 R1 O4 XI hbi C5 hZ Yn C7 F9 Z8 QF hgx hbg hlr q5 Wb;cases Z with
        |error er=>
         have WH:(er==0)=false:=beq_eq_false_iff_ne.2 (Q4i n x er (Xe6 HQ));have G8:X=.error (p2,er):=(by rw[(Xo0 HX),(Xo3 HQ)]);have HX5:=Ua G8;clear G8
         go_upto_region 26 with (go_at_call 76;refine (Xo5 HQ).mono ?_;rintro r w3 ⟨G0,a3,l3,c3,rfl⟩;(have q1:=(G0.cell (p:=⟨g9,i,none⟩) (US q1)).trans q1);have H3:=Ua G0;clear G0)
         go_quiet (fail)
         go_wp2_with fail
         exact ⟨rfl,.tuple #[.slice none 0 0,.int .i64 (p2:Int),.int .i64 er],by simp[results,go_sem],Q4w.err HX5.out (Below.drewN' (Below.next0 (Xo4 HR) (Below.next0 (Xo4 HQ) H3.out)) _)⟩
        |ok P=>
         go_upto_region 27 with (go_at_call 76;refine (Xo5 HQ).mono ?_;rintro r w3 ⟨G0,a3,l3,c3,ms3,rfl,U8,T5,r6⟩;have H3:=Xh4 G0 U8 T5 r6;clear G0 U8 T5 r6)
         obtain ⟨O1,P1,K1,J1⟩:=HI.out;have QS:=Below.next0 (Xo4 HQ) (Xo0 H3);have Y7:=(Xo1 HQ).step (Xo0 H3);have Q9:=QS.alloc QS.size (.cells #[.slice a3 l3 c3] 25);obtain ⟨g6,c6,w6,R3,M1,D1,F5⟩:=Q12 (P:=Tryz.prog) Sl (w3.alloc (.cells #[.slice a3 l3 c3] 25)) 22 22 25 i0 _ 1 24 Tryz.underlying22 O1 P1 K1 J1 rfl (by intro u hu;simp[Value.cells] at hu;subst hu;exact ⟨_,_,_,rfl⟩) wl.heap.size Q9.size a1 i c1 us (Y7.step (Ba)) w3.heap.size 1 1 [.slice a3 l3 c3] rfl (TA (cs:= #[.slice a3 l3 c3]) (Ul _ _)) (by simp[Value.oneCell']) (by intro u hu;simp at hu;subst hu;exact ⟨_,_,_,rfl⟩) (by decide) (by omega) (by decide) (by decide);have HV:=Xh6 QS Y7 Q9 M1 D1 F5;clear QS Y7 Q9 M1 D1 F5 O1 P1 K1 J1
         go_wp2_with (at_builtin;refine Q07 rfl (.tmp 99) (.tmp 101) 22 22 rfl _ _ rfl rfl _ _ R3 ?_)
         obtain ⟨QS,Y7,Q9,M1,D1,F5⟩:=HV.out;have D8:=Y7.step ((Uf _ _).alloc (Ug _) (.cells #[.slice a3 l3 c3] 25));have U2:Bw wl w6:=Q9.trans ⟨D1.os,D1.tape,D1.output,D1.size,fun z hz=>D1.block z (Ue hz Q9.size) (fun e=>by
          have:=D8.1.row_le z e.symm;omega)⟩
         have ZQ:∀{a:OA} {n c:Nat} {ms:List Q01},Q08 w3 a n c ms->Q08 w6 a n c ms:=fun h=>(h.step ((Uf _ _).alloc (Ug _) (.cells #[.slice a3 l3 c3] 25))).kept _ D1 D8.sl;have Z2:=(Xo0 HN);refine ⟨⟨i+1,_,c6,Fv++[ms3],us++[.slice a3 l3 c3],rfl,congrArg (Value.int .i64) (by omega),by omega,by rw[Uj,(Xo0 HQ)];rfl,M1,fun j ms hj=>?_,?_,U2⟩,by simp only[intOf];omega⟩
         ·have Jt:us.length=i:=by have:=(Xo1 HQ).1.len;omega
          by_cases R6:j<i
          ·rw[Tx (by rw[(Xo0 HQ)];exact R6)] at hj;obtain ⟨p',n',d',g1',g2',g3'⟩:=(Xo2 HQ) j ms hj;exact ⟨p',n',d',by rw[Tx (by omega)];exact g1',ZQ (g2'.step (Xo0 H3)),g3'⟩
          ·rw[Tq (by rw[(Xo0 HQ)];omega),(Xo0 HQ)] at hj;have hj0:j-i=0:=by
            have:=(Um.1 hj).1;simp at this;omega
           rw[hj0] at hj;simp only[UI,Un] at hj;subst hj;exact ⟨a3,l3,c3,by rw[Tq (by omega),Jt,hj0];rfl,ZQ (Xo1 H3),(Xe3 H3)⟩
         ·rw[(Xo3 HQ),UP,<-(Xo2 H3)];rfl
       ·have E0:¬((i:Int)<(n:Int)):=(by omega);have A6:i=acc.length:=(by have:=(Xo0 HN);omega);rw[A6,List.drop_length,Q30] at O4;have HS:=Xh5 Yw I0 R1 O4 hbi;have JR:i=n:=(by omega);have HNN:=Ua JR;clear JR;clear Yw I0 R1 O4 hbi A6
        go_wp2_with fail
        refine ⟨rfl,.tuple #[.slice a1 i c1,.int .i64 0,.int .i64 0],by simp[results,go_sem],Below.next0 (Xo4 HR) (Xe4 HS),?_⟩;rw[(Xo0 HX),(Xo3 HS)];refine ⟨a1,i,c1,Fv,rfl,Qi6.done (Xo0 HS) (Xo1 HS) (Xo2 HS),rfl,?_⟩;rw[Q5d,(Xo0 HS),HNN.out];refine ⟨Z3,Y4,fun ms hm=>?_⟩;obtain ⟨j,hj,rfl⟩:=Xay hm;obtain ⟨_,_,_,_,_,h⟩:=(Xo2 HS) j _ (Ub hj);exact h
end Go.Proofs.YtdilmfakkppgpaaGreatDoor
namespace Go.Proofs.YtdilmfakkppgpaaGreatDoor
open Go.RowKit WordsM
theorem Qdc (a b:OA) (n c d:Nat) (ms:List Q01) (w:World) (h1:Q08 w a n c ms) (h2:Q08 w b n d ms) (h0:∀m∈ms,m.es≠[]):
 Calls Tryz.prog 77 #[.slice a n c,.slice b n d] w fun e w'=>e=.returned (.bool true)/\Bw w w':=by
 have Z2:=h1.1;have E4:=Ur h1.2.1 h1.2.2.1;have H:=Xh2 h1 h2;clear h1 h2
 go_enter Tryz.func77,Tryz.ntmps77
 go_wp2_with fail
 go_loopw [5] (fun s5 wr=>∃i:Nat,s5=.int .i64 (i:Int)/\i<=n/\Bw w wr) (fun iv _=>n-(intOf iv).toNat)
 case atStart=>exact ⟨0,rfl,Uu _,Uf _ _⟩
 case round=>
  obtain ⟨i,rfl,hi,Q0⟩:=hrel
  by_cases B0:i<n
  ·have E0:(i:Int)<(n:Int):=(by omega);obtain ⟨x,hx⟩:∃m,ms[i]?=some m:=⟨_,Ub (by omega)⟩;obtain ⟨b1,o1,rfl,C0,XZ⟩:∃b o,a=some ⟨b,o,none⟩/\b<w.heap.size/\∀j m,ms[j]?=some m->Q31 w b (o+j*4) m:=by
    rcases (Xo0 H).2.2.2 with h0|h0
    ·rw[h0] at hx;simp at hx
    ·exact h0
   obtain ⟨b2,o2,rfl,D0,XQ⟩:∃b' o,b=some ⟨b',o,none⟩/\b'<w.heap.size/\∀j m,ms[j]?=some m->Q31 w b' (o+j*4) m:=by
    rcases (Xe4 H) with h0|h0
    ·rw[h0] at hx;simp at hx
    ·exact h0
   obtain ⟨aw,lw,cw,ae,le,ce,p0,p1,p2,p3,hw,he,U4,J4⟩:=XZ i x hx;obtain ⟨bw,lv,cv,be,lf,cf,r0,r1,r2,r3,hw',QA,_,_⟩:=XQ i x hx;obtain rfl:lf=le:=(by rw[<-he.len,<-QA.len]);have hA:Q77 w b1 (o1+i*4) x aw lw cw ae lf ce:=⟨p0,p1,p2,p3,hw⟩;have hB:Q77 w b2 (o2+i*4) x bw lv cv be lf cf:=⟨r0,r1,r2,r3,hw'⟩;have hC:∀W,Bw wr W->Q77 W b1 (o1+i*4) x aw lw cw ae lf ce/\Q77 W b2 (o2+i*4) x bw lv cv be lf cf/\(Calls Tryz.prog 73 #[.agg #[.bool x.neg,.int .i64 x.exp,.slice aw lw cw],.agg #[.bool x.neg,.int .i64 x.exp,.slice bw lv cv]] W fun e w'=>e=.returned (.bool true)/\Bw W w')/\(Calls Tryz.prog 117 #[.slice ae lf ce,.slice be lf cf] W fun e w'=>e=.returned (.int .i64 0)/\Bw W w'):=fun W hW=>by
    have hB':=Below.next0 Q0 hW;refine ⟨hA.step hB',hB.step hB',(Qjt x.neg x.exp aw lw cw x.ws x.neg x.exp bw lv cv x.ws W (hw.step hB') (hw'.step hB') (by have:=hw.cap;have:=hw.most;omega)).mono ?_,(Q64 ae lf ce x.es be cf x.es W (he.step hB') (QA.step hB')).mono ?_⟩
    ·rintro r w2 ⟨rfl,hb⟩;exact ⟨by simp,hb⟩
    ·rintro r w2 ⟨rfl,k,rfl⟩;exact ⟨by rw[Q99],Qat _ _⟩
   have HC:=Ua hC;have HS:=Ua Q0;clear hC Q0 XZ XQ p0 p1 p2 p3 r0 r1 r2 r3 hw he hw' QA U4 J4 hA hB hx
   go_upto_region 6 with fail
   refine Q0c (E:=Qap) (fun _=>Uf _ _) (by kernel_rfl) (fun W=>Bw wr W) (fun _ _ h h'=>Below.next0 h h') (Q3x [.slice (some ⟨b1,o1,none⟩) n c,.int .i64 (i:Int),.pointer (some ⟨b1,o1+i*4,none⟩),.pointer (some ⟨b1,o1+i*4,none⟩),.agg #[.bool x.neg,.int .i64 x.exp,.slice aw lw cw],.slice (some ⟨b2,o2,none⟩) n d,.int .i64 (i:Int),.pointer (some ⟨b2,o2+i*4,none⟩),.pointer (some ⟨b2,o2+i*4,none⟩),.agg #[.bool x.neg,.int .i64 x.exp,.slice bw lv cv],.bool true,.bool false,.bool false,.slice (some ⟨b1,o1,none⟩) n c,.int .i64 (i:Int),.pointer (some ⟨b1,o1+i*4,none⟩),.pointer (some ⟨b1,o1+i*4+3,none⟩),.slice ae lf ce,.int .i64 (lf:Int),.slice (some ⟨b2,o2,none⟩) n d,.int .i64 (i:Int),.pointer (some ⟨b2,o2+i*4,none⟩),.pointer (some ⟨b2,o2+i*4+3,none⟩),.slice be lf cf,.int .i64 (lf:Int),.bool false,.bool false,.bool false,.slice (some ⟨b1,o1,none⟩) n c,.int .i64 (i:Int),.pointer (some ⟨b1,o1+i*4,none⟩),.pointer (some ⟨b1,o1+i*4+3,none⟩),.slice ae lf ce,.slice (some ⟨b2,o2,none⟩) n d,.int .i64 (i:Int),.pointer (some ⟨b2,o2+i*4,none⟩),.pointer (some ⟨b2,o2+i*4+3,none⟩),.slice be lf cf,.int .i64 0,.bool false,.bool false] (Q1n [])) (Q0h (Q0m ((fun p hp=>by cases hp)))) (Q22 (by kernel_rfl)) (by kernel_rfl) (Q05 wr) ?_ ?_
   ·skip
    repeat' (first|exact Q98|refine Q97 ?_ ?_)
    all_goals
     refine Q29 rfl fun A W hW F0 hd hd=>?_;simp[Q82,Region.binds,Q1n] at hd;have e0:=Q0d F0 0 (by kernel_rfl) rfl;have e5:=Q0d F0 5 (by kernel_rfl) rfl;have e1:=Q0d F0 1 (by kernel_rfl) rfl
     first
     |(refine Q3n rfl rfl ?_;simp[go_sem,hd,e0,e5,e1,E0,(HC.out W hW).1.c0,(HC.out W hW).1.c1,(HC.out W hW).1.c2,(HC.out W hW).2.1.c0,(HC.out W hW).2.1.c1,(HC.out W hW).2.1.c2,(HC.out W hW).1.c3,(HC.out W hW).2.1.c3];done)
     |(refine Q7a rfl rfl ?_ (((HC.out W hW).2.2.1));simp[go_sem,hd];done)
     |(refine Q7a rfl rfl ?_ (((HC.out W hW).2.2.2));simp[go_sem,hd];done)
   intro vs W1 S1 C3;have HB:=Ua S1;have e40:vs 40=.bool false:=(Q09 rfl).1 (C3 40 (by decide));simp only[Q0s,Act.put,Uw,UK,UJ,e40];clear S1 C3 e40
   go_wp2_with fail
   exact ⟨⟨i+1,congrArg (Value.int .i64) (by omega),by omega,Below.next0 HS.out HB.out⟩,by simp only[intOf];omega⟩
  ·have E0:¬(i:Int)<(n:Int):=(by omega);have HS:=Ua Q0;clear Q0
   go_wp2_with fail
   go_ret;exact ⟨rfl,HS.out⟩
theorem Q78 (a b:OA) (n c d:Nat) (F:List (List Q01)) (w:World) (h1:Q2t w a n c F) (h2:Q2t w b n d F) (h0:∀ms∈F,∀m∈ms,m.es≠[]):
 Calls Tryz.prog 42 #[.slice a n c,.slice b n d] w fun e w'=>e=.returned (.bool true)/\Bw w w':=by
 have Z2:=h1.1;have E4:=Ur h1.2.1 h1.2.2.1;have H:=Xh3 h1 h2 h0;clear h1 h2 h0
 go_enter Tryz.func42,Tryz.ntmps42
 go_wp2_with fail
 go_loopw [5] (fun s5 wr=>∃i:Nat,s5=.int .i64 (i:Int)/\i<=n/\Bw w wr) (fun iv _=>n-(intOf iv).toNat)
 case atStart=>exact ⟨0,rfl,Uu _,Uf _ _⟩
 case round=>
  obtain ⟨i,rfl,hi,Q0⟩:=hrel
  by_cases B0:i<n
  ·have E0:(i:Int)<(n:Int):=(by omega);obtain ⟨ms,hx⟩:∃ms,F[i]?=some ms:=⟨_,Ub (by omega)⟩;obtain ⟨b1,o1,rfl,C0,XZ⟩:∃b o,a=some ⟨b,o,none⟩/\b<w.heap.size/\∀j ms,F[j]?=some ms->∃p l d,w.cell? ⟨b,o+j,none⟩=some (.slice p l d)/\Q08 w p l d ms:=by
    rcases (Xo0 H).2.2.2 with h0|h0
    ·rw[h0] at hx;simp at hx
    ·exact h0
   obtain ⟨b2,o2,rfl,D0,XQ⟩:∃b' o,b=some ⟨b',o,none⟩/\b'<w.heap.size/\∀j ms,F[j]?=some ms->∃p l d,w.cell? ⟨b',o+j,none⟩=some (.slice p l d)/\Q08 w p l d ms:=by
    rcases (Xo1 H).2.2.2 with h0|h0
    ·rw[h0] at hx;simp at hx
    ·exact h0
   obtain ⟨p,l,dd,k0,C8⟩:=XZ i ms hx;obtain ⟨p2,l2,d2,k1,F9⟩:=XQ i ms hx;obtain rfl:l2=l:=(by rw[<-C8.1,<-F9.1]);have hC:∀W,Bw wr W->W.cell? ⟨b1,o1+i,none⟩=some (.slice p l2 dd)/\W.cell? ⟨b2,o2+i,none⟩=some (.slice p2 l2 d2)/\Calls Tryz.prog 77 #[.slice p l2 dd,.slice p2 l2 d2] W fun e w'=>e=.returned (.bool true)/\Bw W w':=fun W hW=>by
    have hB:=Below.next0 Q0 hW;exact ⟨(hB.cell (p:=⟨b1,o1+i,none⟩) C0).trans k0,(hB.cell (p:=⟨b2,o2+i,none⟩) D0).trans k1,Qdc p p2 l2 dd d2 ms W (C8.step hB) (F9.step hB) ((Xe2 H) ms (Ud hx))⟩
   have HC:=Ua hC;have HS:=Ua Q0;clear hC Q0 XZ XQ k0 k1 C8 F9 hx
   go_upto_region 6 with fail
   refine Q0c (E:=Qap) (fun _=>Uf _ _) (by kernel_rfl) (fun W=>Bw wr W) (fun _ _ h h'=>Below.next0 h h') (Q3x [.slice (some ⟨b1,o1,none⟩) n c,.int .i64 (i:Int),.pointer (some ⟨b1,o1+i,none⟩),.slice p l2 dd,.slice (some ⟨b2,o2,none⟩) n d,.int .i64 (i:Int),.pointer (some ⟨b2,o2+i,none⟩),.slice p2 l2 d2,.bool true,.bool false] (Q1n [])) (Q0h (Q0m ((fun p hp=>by cases hp)))) (Q22 (by kernel_rfl)) (by kernel_rfl) (Q05 wr) ?_ ?_
   ·skip
    repeat' (first|exact Q98|refine Q97 ?_ ?_)
    all_goals
     refine Q29 rfl fun A W hW F0 hd hd=>?_;simp[Q82,Region.binds,Q1n] at hd;have e0:=Q0d F0 0 (by kernel_rfl) rfl;have e5:=Q0d F0 5 (by kernel_rfl) rfl;have e1:=Q0d F0 1 (by kernel_rfl) rfl
     first
     |(refine Q3n rfl rfl ?_;simp[go_sem,hd,e0,e5,e1,E0,(HC.out W hW).1,(HC.out W hW).2.1];done)
     |(refine Q7a rfl rfl ?_ ((HC.out W hW).2.2);simp[go_sem,hd];done)
   intro vs W1 S1 C3;have HB:=Ua S1;have e9:vs 9=.bool false:=(Q09 rfl).1 (C3 9 (by decide));simp only[Q0s,Act.put,Uw,UK,UJ,e9];clear S1 C3 e9
   go_wp2_with fail
   exact ⟨⟨i+1,congrArg (Value.int .i64) (by omega),by omega,Below.next0 HS.out HB.out⟩,by simp only[intOf];omega⟩
  ·have E0:¬(i:Int)<(n:Int):=(by omega);have HS:=Ua Q0;clear Q0
   go_wp2_with fail
   go_ret;exact ⟨rfl,HS.out⟩
end Go.Proofs.YtdilmfakkppgpaaGreatDoor
namespace Go.Proofs.YtdilmfakkppgpaaGreatDoor
open Go.RowKit WordsM DecM
theorem Qv8 {w:World} {a:OA} {n c:Nat} {F:List (List Q01)} (h:Q2t w a n c F) {ms:List Q01} (hm:ms∈F):∃p l d,Q08 w p l d ms:=by
 obtain ⟨h1,h2,h3,h0|⟨b,o,_,_,hF⟩⟩:=h
 ·rw[h0] at hm;cases hm
 obtain ⟨i,hi⟩:=Ts.1 hm;obtain ⟨p,l,d,_,hM⟩:=hF i ms hi;exact ⟨p,l,d,hM⟩
theorem Qyk {w:World} {p:OA} {l d:Nat} {ms:List Q01} (h:Q08 w p l d ms) {m:Q01} (hm:m∈ms):Low (2^64) m.ws:=by
 obtain ⟨_,_,_,h0|⟨b2,o2,_,_,hM⟩⟩:=h
 ·rw[h0] at hm;cases hm
 obtain ⟨j,hj⟩:=Ts.1 hm;obtain ⟨_,_,_,_,_,_,_,_,_,_,hw,_⟩:=hM j m hj;exact hw.low
theorem Qv9 {k j:Nat} {m m':Q01} (h:OkM k m) (h':OkM j m') (l:Low (2^64) m.ws) (l':Low (2^64) m'.ws) (e:m.term=m'.term):m=m':=by
 have e1:Q28 m.neg m.exp m.ws=Q28 m'.neg m'.exp m'.ws:=congrArg Prod.fst e;have e2:m.es=m'.es:=congrArg Prod.snd e;obtain ⟨h1,h2,h3⟩:=Qq8 h.1.2 l h'.1.2 l' e1;cases m;cases m';simp only at h1 h2 h3 e2;rw[h1,h2,h3,e2]
theorem Qj8 {k j:Nat}:∀{ms ms':List Q01},(∀m∈ms,OkM k m/\Low (2^64) m.ws)->(∀m∈ms',OkM j m/\Low (2^64) m.ws)->ms.map Q01.term=ms'.map Q01.term->ms=ms'
 |[],[],_,_,_=>rfl
 |[],_::_,_,_,h=>by simp at h
 |_::_,[],_,_,h=>by simp at h
 |m::r,m'::r',h1,h2,h=>by
  simp only[Xa4,List.cons.injEq] at h;rw[Qv9 (h1 m (by simp)).1 (h2 m' (by simp)).1 (h1 m (by simp)).2 (h2 m' (by simp)).2 h.1,Qj8 (fun x hx=>h1 x (by simp[hx])) (fun x hx=>h2 x (by simp[hx])) h.2]
theorem Qj9 {k j:Nat}:∀{F G:List (List Q01)},(∀ms∈F,∀m∈ms,OkM k m/\Low (2^64) m.ws)->(∀ms∈G,∀m∈ms,OkM j m/\Low (2^64) m.ws)->Q1y F=Q1y G->F=G
 |[],[],_,_,_=>rfl
 |[],_::_,_,_,h=>by simp[Q1y] at h
 |_::_,[],_,_,h=>by simp[Q1y] at h
 |m::r,m'::r',h1,h2,h=>by
  simp only[Q1y,Xa4,List.cons.injEq] at h;rw[Qj8 (h1 m (by simp)) (h2 m' (by simp)) h.1,Qj9 (fun x hx=>h1 x (by simp[hx])) (fun x hx=>h2 x (by simp[hx])) h.2]
theorem Qfy {w:World} {a:OA} {n c:Nat} {F:List (List Q01)} (h:Q2t w a n c F) (hR:Q5d F):∀ms∈F,∀m∈ms,OkM F.length m/\Low (2^64) m.ws:=fun ms k6 m hm=>by
 obtain ⟨p,l,d,hM⟩:=Qv8 h k6;exact ⟨(hR.2.2 ms k6).2.2.2.1 m hm,Qyk hM hm⟩
theorem Qsv {w:World} {a:OA} {n c:Nat} {F:List (List Q01)} (h:Q2t w a n c F) (hR:Q5d F):∀ms∈F,∀m∈ms,m.es≠[]:=fun ms k6 m hm e=>by
 have h1:=(Qfy h hR ms k6 m hm).1.1.1.1;have h2:=hR.1;rw[e] at h1;simp at h1;omega
theorem Qlb (W:World) (g:Nat) (v:Int) (d:UInt8) (hg:W.heap[g]?=some (.cells #[.int .u8 v] 5 (0,0))) (hv:v=(d.toNat:Int)):(convert 33 9 (.slice (some ⟨g,0,none⟩) 1 1)).run Tryz.prog W=.ok (.string ⟨#[d]⟩) W:=by
 have XM:g<W.heap.size:=(Uv.1 hg).1;refine Q7c _ W.heap.size _ 1 1 [d] ?_ rfl;refine .inr ⟨g,0,rfl,XM,fun j x hx=>?_⟩;cases j with
 |zero=>
  have hx:some d=some x:=hx;injection hx with hx;subst hx;rw[Ux _ _ _ _ _ _ hg,hv];rfl
 |succ j=>simp at hx
theorem Qsw (s:ByteArray) (w:World) (hs:s.size<=1000000) (hT:Q2n w):
 Calls Tryz.prog 16 #[.string s] w fun e w'=>e=.returned (.bool true)/\Bw w w':=by
 have h1:=Q63 s w hs hT;have h2:=fun W=>Qfx s W hs;obtain ⟨X,hX⟩:∃X,Q4d s.data.toList=X:=⟨_,rfl⟩;rw[hX] at h1;simp only[hX] at h2;have H:=Xh2 h1 h2;clear h1 h2 hX
 go_enter Tryz.func16,Tryz.ntmps16
 cases X with
 |error z=>
  obtain ⟨p,er⟩:=z
  go_wp2_with (first
   |(go_at_call 17;refine (Xo0 H).mono ?_;rintro r w1 ⟨C0,rfl⟩;have H1:=Ua C0;clear C0)
   |(go_at_call 41;refine ((Xe1 H) w1).mono ?_;rintro r w2 ⟨D0,rfl⟩;have H2:=Ua (Below.next0 H1.out D0);clear D0;have hsf:=Q78 none none 0 0 0 [] w2 ⟨rfl,Ug _,by decide,.inl rfl⟩ ⟨rfl,Ug _,by decide,.inl rfl⟩ (fun ms h=>by cases h))
   |(go_at_call 42;refine hsf.mono ?_;rintro r w3 ⟨rfl,G0⟩;have H3:=Ua (Below.next0 H2.out G0);clear G0))
  go_ret;exact ⟨rfl,H3.out⟩
 |ok F=>
  go_upto_region 2 with (go_at_call 17;refine (Xo0 H).mono ?_;rintro r w1 ⟨C0,a,n,c,Fv,rfl,hF,hFt,hFr⟩;have H1:=Xh4 C0 hF hFt hFr;clear C0 hF hFt hFr)
  go_upto_region 3 with (go_at_call 41;refine ((Xe1 H) w1).mono ?_;rintro r w2 ⟨D0,a2,n2,c2,Gv,rfl,hG,hGt,hGr⟩;have H2:=Xh4 D0 hG hGt hGr;clear D0 hG hGt hGr)
  have hFG:Fv=Gv:=Qj9 (Qfy (Xo1 H1) (Xe3 H1)) (Qfy (Xo1 H2) (Xe3 H2)) ((Xo2 H1).trans (Xo2 H2).symm);have Xd:n2=n:=by rw[<-(Xo1 H1).1,<-(Xo1 H2).1,hFG]
  have hsf:=Q78 a a2 n c c2 Fv w2 ((Xo1 H1).step (Xo0 H2)) (by have:=(Xo1 H2);rw[<-hFG,Xd] at this;exact this) (Qsv (Xo1 H1) (Xe3 H1));have HS:=Ua hsf;clear hsf hFG;subst Xd
  go_wp2_with (go_at_call 42;refine HS.out.mono ?_;rintro r w3 ⟨rfl,G0⟩;have H3:=Ua (Below.next0 (Below.next0 (Xo0 H1) (Xo0 H2)) G0);clear G0)
  go_ret;exact ⟨rfl,H3.out⟩
def Qyl (w:World) (b:Nat) (s4 s5:Value) (wr:World):Prop:=∃(J:Nat) (S:ByteArray) (j:Nat),s4=.string S/\s5=.int .i64 (J:Int)/\1<=J/\J<=4/\S.size<=(J-1)*130010/\Q8w wr b j/\j<=(J-1)*60010/\Q0f (·=b) w wr
theorem Qdk (a:OA) (n c:Nat) (ls:LN) (w:World) (Z2:ls.length=n) (hn:n<=9223372036854775807) (X8:RdU w w.heap.size a ls) (hx:∀x∈ls,x<18446744073709551616) (hl:Quh w):
 Calls Tryz.prog 4 #[.slice a n c] w fun e w'=>e=.returned (.bool true)/\Bw w w':=by
 have hk:=Qrx w hl;have HL:=Ua (fun W (hb:Bw w W)=>hl.below hb);have HRD:=Xh2 X8 hx;have HK:=Ua hk;clear hk hl X8 hx
 go_enter Tryz.func4,Tryz.ntmps4
 by_cases h6:150<n
 ·have h6':(150:Int)<(n:Int):=by omega
  go_wp2_with (go_at_call 8;refine HK.out.mono ?_;rintro e w1 ⟨rfl,C0⟩;have H1:=Ua C0;clear C0)
  go_ret;exact ⟨rfl,H1.out⟩
 have h6':¬(150:Int)<(n:Int):=by omega
 go_wp2_with (first
  |(go_at_call 8;refine HK.out.mono ?_;rintro e w1 ⟨rfl,C0⟩;have H1:=Ua C0;clear C0)
  |(go_at_call 9
    refine (Qo9 a n c ls w1 Z2 hn ((RdI.below (K:=.u64) (Xo0 HRD) H1.out).more H1.out.size) (Xe1 HRD)).mono ?_;rintro e w2 ⟨rfl,M2,D0⟩;have H2:=Xh2 M2 (Below.next0 H1.out D0);clear M2 D0))
 obtain ⟨b,hb⟩:∃b,w1.heap.size=b:=⟨_,rfl⟩;have hwb:w.heap.size<=b:=by rw[<-hb];exact H1.out.size
 rw[hb] at H2;rw[hb]
 go_loopw [4,5] (fun s4 s5 wr=>Qyl w2 b s4 s5 wr) (fun _ iv _=>5-(intOf iv).toNat)
 case atStart=>exact ⟨1,⟨#[]⟩,0,rfl,rfl,by decide,by decide,by decide,(Xo0 H2),by decide,Q0f.refl _ _⟩
 case round=>
  obtain ⟨J,S,j,rfl,rfl,hJ1,hJ4,hS,Xg,hj,ht⟩:=hrel;have Qn:=Qfo b j 3 wr Xg (by omega) (by decide) (by decide);have HS:=Xh4 hS hj ht Qn;have hSb:S.size<=400000:=by omega
  have hjb:j<=200000:=by omega
  clear hS hj ht Qn Xg
  go_upto_if 17 with (go_at_call 14;refine (Xe3 HS).mono ?_;rintro e w3 ⟨⟨x,hx,rfl⟩,JG,T5⟩;(have H3:=Xh2 JG T5);clear JG T5)
  by_cases o6:J<=1+x
  ·have hle':(J:Int)<=1+(x:Int):=(by omega);have K4:IntKind.i64.wrap (48+(J:Int))=48+(J:Int):=(by rw[Ut];omega);have Q8:IntKind.u8.wrap (48+(J:Int))=48+(J:Int):=(by rw[Xat];omega);have Kd:=(Xo0 H3).lt;have Q3:(48:Int)+(J:Int)=((UInt8.ofNat (48+J)).toNat:Int):=(by rw[Xbh];omega);obtain ⟨dg,ZA⟩:∃dg,UInt8.ofNat (48+J)=dg:=⟨_,rfl⟩;rw[ZA] at Q3;have HD:=Ua Q3;clear Q3 ZA;have hcvA:=Qlb (w3.alloc (.cells #[.int .u8 (48+(J:Int))] 5)).drew w3.heap.size (48+(J:Int)) dg (Ul w3 (.cells #[.int .u8 (48+(J:Int))] 5)) HD.out;have hbA:Bw w3 (w3.alloc (.cells #[.int .u8 (48+(J:Int))] 5)).drew:=Below.next0 (Ba) (Q05 _);have VV:=Ua hbA;clear hbA
   go_upto_region 10 with fail
   go_region_law (
    refine Q2y (by rfl) 15 #[.pointer (some ⟨b,0,none⟩),.int .i64 3] (by simp[go_sem]) ?_;refine (Qsf b _ (j+1) (by first|exact (Xo0 H3).call VV.out|exact (Xo0 H3).call (Q05 w3)) (by omega)).mono ?_;rintro r w5 ⟨⟨T,j5,rfl,hT,WW,hj5⟩,p5⟩;refine ⟨_,rfl,?_⟩;have H5:=Xh3 WW hj5 p5;clear WW hj5 p5;have z1:¬9223372036854775807<6+T.size:=(by omega);have z2:¬9223372036854775807<7+T.size:=(by omega);have z3:¬9223372036854775807<6+T.size+1:=(by omega);have z4:¬9223372036854775807<S.size+(6+T.size+1):=(by omega);have z5:¬9223372036854775807<S.size+(7+T.size):=(by omega);have hcvC:=Qlb (w5.alloc (.cells #[.int .u8 (48+(J:Int))] 5)) w5.heap.size (48+(J:Int)) dg (Ul w5 (.cells #[.int .u8 (48+(J:Int))] 5)) HD.out
    first
     |have hcvB:=Qlb w5 w3.heap.size (48+(J:Int)) dg (((Xe2 H5).block w3.heap.size (Q0r w3 (.cells #[.int .u8 (48+(J:Int))] 5)) (by omega)).trans (Ul w3 (.cells #[.int .u8 (48+(J:Int))] 5))) HD.out
     |skip)
   all_goals go_wp2_with fail
   all_goals refine ⟨⟨J+1,_,j5,rfl,congrArg (Value.int .i64) (by omega),by omega,by omega,?_,?_,?_,?_⟩,by simp only[intOf];omega⟩
   all_goals first
    |(simp only[Q4z,one_size,four_size];have:=(Xo0 HS);omega)
    |exact (Xo0 H5)
    |exact (Xo0 H5).call (Ba)
    |(have h1:=(Xo1 H5);have:=(Xo1 HS);omega)
    |exact (((Xo2 HS).trans0 (Xe1 H3)).past' VV.out).trans0 (Xe2 H5)
    |exact (((Xo2 HS).trans0 (Xe1 H3)).past' (Q05 w3)).trans0 (Xe2 H5)
    |exact ((((Xo2 HS).trans0 (Xe1 H3)).past' (Q05 w3)).trans0 (Xe2 H5)).past' (Ba)
  ·have hle':¬(J:Int)<=1+(x:Int):=(by omega);have N0:Bw w w3:=Below.turn (Below.turn (Xe1 H2) (Xo2 HS) (Xe1 H2).size (fun k e=>by omega)) (Xe1 H3) (Ur (Xe1 H2).size (Xo2 HS).size) (fun k e=>by omega);have Xf:=Qsw S w3 (by omega) (HL.out w3 N0).tz;have HR:=Xh2 Xf N0;clear Xf N0
   go_wp2_with (go_at_call 16;refine (Xo0 HR).mono ?_;rintro r w4 ⟨rfl,F1⟩;have H4:=Ua F1;clear F1)
   go_ret;exact ⟨rfl,Below.next0 (Xe1 HR) H4.out⟩
end Go.Proofs.YtdilmfakkppgpaaGreatDoor
