/- Part 26 of the proof of LawParseMeans: TermW, WriteK. Condition: as each theorem says; none at the end. -/
import Derived.Lib.Join
import Derived.Test.YtdilmfakkppgpaaGreatDoorPkParseMeans25
set_option maxRecDepth 100000
set_option maxHeartbeats 16000000
namespace Go.Proofs.YtdilmfakkppgpaaGreatDoor
open Go.RowKit WordsM DecM
theorem Qbk:(Tryz.prog.info? 9).map (fun i=>(i.zero,i.size,i.bytes))=some (some (.string ⟨#[]⟩),1,16):=by kernel_rfl
def Qmp (w:World):Prop:=∀W,Below w.heap.size w W->Lib.TabIs Tryz.prog W "internal/strconv.uint64pow10" .u64 Lib.pow10Tab
theorem Qmp.step {w w':World} (h:Qmp w) (hb:Below w.heap.size w w'):Qmp w':=fun W hW=>h W (Below.next0 hb hW)
theorem Qgg:∀(E F:List Int) (i:Nat),Q2j i (E++F)=Q2j i E++Q2j (i+E.length) F
 |[],F,i=>by simp[Q2j]
 |k::r,F,i=>by
  rw[List.cons_append,Q2j,Q2j,Qgg r F (i+1),List.append_assoc,List.length_cons]
  rw[show i+1+r.length=i+(r.length+1) by omega]
theorem Qmq {E:List Int} {i:Nat} {k:Int} (h:E[i]?=some k):Q2j 0 (E.take (i+1))=Q2j 0 (E.take i)++Qfc i k:=by
 have hlt:=(List.getElem?_eq_some_iff.1 h).1
 rw[List.take_add_one,h,Qgg]
 congr 1
 show Q2j (0+(E.take i).length) [k]=_
 rw[List.length_take,Nat.min_eq_left (by omega),Nat.zero_add,Q2j,Q2j,List.append_nil]
theorem Q94:∀(l:List (List UInt8)),Lib.join l [42]=Q48 l
 |[]=>rfl
 |[x]=>by rw[Lib.join_one];rfl
 |x::y::r=>by
  rw[Lib.join_cons,Q48,<-Q94 (y::r),Lib.join_cons]
  simp[Lib.joinTail]
def Qnk (w:World) (B:Nat) (a:Option Addr) (n c:Nat) (ts:List (List UInt8)):Prop:=Row w B 9 1 a n c (ts.map sv)
def Quo (w:World) (E:List Int) (s3 s10:Value) (wx:World):Prop:=∃(i:Nat) (a:Option Addr) (n c:Nat),s3=.slice a n c/\s10=.int .i64 (i:Int)/\i<=E.length/\n<=i/\Qnk wx w.heap.size a n c (Q2j 0 (E.take i))/\Below w.heap.size w wx
theorem Qd6 (ty:TypeId) (w0 w:World) (hb:Below w0.heap.size w0 w) (a:Option Addr) (n c:Nat) (ts:List (List UInt8)) (hr:Qnk w w0.heap.size a n c ts) (t:List UInt8) (hn:n<=1000) (v:Value) (hv:v=sv t):
 ∃a' c' w',(Builtin.append_ #[77,77] ty #[.slice a n c,.slice (some ⟨w.heap.size,0,none⟩) 1 1]).run Tryz.prog (w.alloc (.cells #[v] 9))=.ok (.slice a' (n+1) c') w'/\Qnk w' w0.heap.size a' (n+1) c' (ts++[t])/\Below w0.heap.size w0 w':=by
 subst hv
 obtain ⟨i0,hi0,hz0,hz1,hz2⟩:=Q0t Qbk
 have hb2:=hb.alloc hb.size (.cells #[sv t] 9)
 obtain ⟨a',c',w',hrun,hrow,hgr,hbw,_⟩:=Q3v w0 (w.alloc (.cells #[sv t] 9)) ty 77 9 i0 _ 1 16 Tryz.underlying77 hi0 hz0 hz1 hz2 rfl (by decide) w0.heap.size hb2 hb2.size a n c _ (hr.alloc _) ⟨w.heap.size,0,none⟩ 1 1 [sv t] rfl (World.news_of_block (cs:= #[sv t]) (heap_alloc_new _ _)) (by simp[Value.oneCell',sv]) (n+1) rfl (by omega) (by omega)
 exact ⟨a',c',w',hrun,by unfold Qnk;rw[List.map_append];exact hrow,hbw⟩
theorem Qmr {v:Nat} {e:Int} (hv:v<(2^64)^64) (h1: -65536<=e) (h2:e<=65536):(Q2i false v e).length<=1400:=by
 have hd:=DecM.dec_len 1300 v (Nat.lt_of_lt_of_le hv Qfe) (by decide)
 have he:=DecM.dec_len 6 e.natAbs (by omega) (by decide)
 unfold Q2i Q9p
 rw[if_neg (by decide),List.nil_append,List.length_append]
 split
 ·simp;omega
 ·rw[List.length_cons]
  split
  ·rw[List.length_cons];omega
  ·omega
theorem Qms {i:Nat} {k:Int} (hi:i<9) (h8:k<=8):∀t∈Qfc i k,t.length<=4:=by
 intro t ht
 unfold Qfc at ht
 split at ht
 ·rw[List.mem_singleton] at ht
  subst ht
  rw[Q1z (by omega)];simp
 ·split at ht
  ·rw[List.mem_singleton] at ht
   subst ht
   rw[Q1z (by omega),Q1z (by omega)];simp
  ·cases ht
theorem Qmt (i:Nat) (k:Int):(Qfc i k).length<=1:=by
 unfold Qfc
 split
 ·simp
 ·split <;> simp
theorem Q7a:∀(E:List Int) (i:Nat),i+E.length<=9->(∀x∈E,x<=8)->(∀t∈Q2j i E,t.length<=4)/\(Q2j i E).length<=E.length
 |[],i,_,_=>⟨(fun t h=>by cases h),Nat.le_refl _⟩
 |k::r,i,hi,h=>by
  rw[List.length_cons] at hi
  obtain ⟨h1,h2⟩:=Q7a r (i+1) (by omega) (fun x hx=>h x (by simp[hx]))
  rw[Q2j]
  refine ⟨fun t ht=>?_,?_⟩
  ·rcases List.mem_append.1 ht with h3|h3
   ·exact Qms (by omega) (h k (by simp)) t h3
   ·exact h1 t h3
  ·rw[List.length_append,List.length_cons]
   have:=Qmt i k
   omega
theorem Qbl {N:Nat}:∀(ts:List (List UInt8)),(∀t∈ts,t.length<=N)->(Q48 ts).length<=ts.length*(N+1)
 |[],_=>by simp[Q48]
 |[x],h=>by
  have:=h x (by simp)
  simp only[Q48,List.length_cons,List.length_nil];omega
 |x::y::r,h=>by
  have h1:=h x (by simp)
  have h2:=Qbl (y::r) (fun t ht=>h t (by simp[ht]))
  rw[Q48,List.length_append,List.length_cons]
  rw[List.length_cons,Nat.add_mul]
  omega
theorem Qbm (ty:TypeId) (w0 w:World) (hb:Below w0.heap.size w0 w) (a:Option Addr) (n c:Nat) (ts:List (List UInt8)) (hr:Qnk w w0.heap.size a n c ts) (B:Nat) (b:Option Addr) (m d:Nat) (us:List (List UInt8)) (hs:Qnk w B b m d us) (hn:n+m<=1000):
 ∃a' c' w',(Builtin.append_ #[77,77] ty #[.slice a n c,.slice b m d]).run Tryz.prog w=.ok (.slice a' (n+m) c') w'/\Qnk w' w0.heap.size a' (n+m) c' (ts++us)/\Below w0.heap.size w0 w':=by
 obtain ⟨i0,hi0,hz0,hz1,hz2⟩:=Q0t Qbk
 rcases hs.form with ⟨rfl,rfl,rfl,hu⟩|⟨g,cur,rfl,_⟩
 ·have hun:us=[]:=List.map_eq_nil_iff.1 hu
  subst hun
  exact ⟨a,c,w,Q77 w _ ty _ i0 Tryz.underlying77 hi0 a none n c 0 hr.cap.1,by simpa using hr,hb⟩
 ·have hcell:∀j u,(us.map sv)[j]?=some u->w.cell? ((⟨g,0,none⟩:Addr).add j)=some u:=fun j u hj=>by
   obtain ⟨g',e,_,_,h⟩:=hs.at_ hj
   injection e with e
   injection e with e
   subst e
   rw[Addr.add_lit,Nat.zero_add];exact h
  obtain ⟨a',c',w',hrun,hrow,hgr,hbw,_⟩:=Q3v w0 w ty 77 9 i0 _ 1 16 Tryz.underlying77 hi0 hz0 hz1 hz2 rfl (by decide) w0.heap.size hb hb.size a n c _ hr ⟨g,0,none⟩ m d (us.map sv) hs.len hcell (by intro u hu;obtain ⟨t,_,rfl⟩:=List.mem_map.1 hu;rfl) (n+m) rfl (by omega) (by omega)
  exact ⟨a',c',w',hrun,by unfold Qnk;rw[List.map_append];exact hrow,hbw⟩
theorem Qbn {w:World} {B:Nat} {a:Option Addr} {n c:Nat} {ts:List (List UInt8)} (h:Qnk w B a n c ts) (hn:n<=1000) (ht:∀t∈ts,t.length<=1400):
 Calls Tryz.prog 70 #[.slice a n c,.string ⟨#[42]⟩] w fun e w'=>e=.returned (sv (Q48 ts))/\Below w.heap.size w w':=by
 have hlen:ts.length=n:=by have:=h.len;simpa using this
 rcases h.form with ⟨rfl,rfl,rfl,hu⟩|⟨g,cur,rfl,_,hg,_⟩
 ·have hun:ts=[]:=List.map_eq_nil_iff.1 hu
  subst hun
  refine (Tryz.Qx0 none 0 ⟨#[42]⟩ w).mono ?_
  rintro e w' ⟨rfl,rfl⟩
  exact ⟨rfl,Below.refl _ _⟩
 ·have hmap:(ts.map fun t=>(⟨t.toArray⟩:ByteArray)).map (·.data.toList)=ts:=by
   rw[List.map_map]
   exact (List.map_congr_left fun t _=>by simp).trans (List.map_id ts)
  have hj:=Qbl ts ht
  have hcon:=Tryz.Qx1 g 0 c (ts.map fun t=>(⟨t.toArray⟩:ByteArray)) ⟨#[42]⟩ w (fun j x hx=>by
   rw[List.getElem?_map] at hx
   obtain ⟨t,ht1,rfl⟩:=Option.map_eq_some_iff.1 hx
   obtain ⟨g',e,_,_,h2⟩:=h.at_ (j:=j) (x:=sv t) (by rw[List.getElem?_map,ht1];rfl)
   injection e with e
   injection e with e
   subst e
   rw[Nat.zero_add];exact h2) hg (by rw[List.length_map];omega) (by rw[List.length_map,hlen];exact h.cap.1) (by
   rw[hmap]
   show (Lib.join ts [42]).length<=_
   rw[Q94]
   have:ts.length*1401<=1000*1401:=Nat.mul_le_mul_right _ (by omega)
   omega)
  rw[hmap,List.length_map,hlen] at hcon
  refine hcon.mono ?_
  rintro e w' ⟨rfl,hb⟩
  refine ⟨?_,hb⟩
  show Ending.returned (.string ⟨(Lib.join ts [42]).toArray⟩)=_
  rw[Q94]
theorem Qgh {k:Nat} {m:Q05} (h:OkM k m) (hl:Low (2^64) m.ws):Qa3 m.term.1=Q1q false m.exp m.ws/\dyT (Qa3 m.term.1)=Q3c false m.exp m.ws/\Q0h false m.exp m.ws/\(Q3c false m.exp m.ws).length<=1400:=by
 obtain ⟨⟨h1,h2⟩,h3⟩:=h
 rcases Q2c h2 hl with ⟨h4,_⟩|⟨_,ho,_,hv,g1,g2⟩
 ·exact absurd h4 h3
 have h5:Q0h false m.exp m.ws:=by
  unfold Q0h at h2⊢
  rw[if_neg h3] at h2⊢
  exact h2
 have ha:Qa3 m.term.1=Q1q false m.exp m.ws:=Qdu ho
 refine ⟨ha,?_,h5,?_⟩
 ·rw[ha,show Q3c false m.exp m.ws=Q2i false (val (2^64) m.ws) m.exp from if_pos h5]
  exact Qie ho
 ·rw[show Q3c false m.exp m.ws=Q2i false (val (2^64) m.ws) m.exp from if_pos h5]
  exact Qmr hv g1 g2
theorem Qsm {e e':Int} {n':Bool} {L K:List Nat} (h1:Q0h false e L) (l1:Low (2^64) L) (h2:Q0h n' e' K) (l2:Low (2^64) K) (hv:Q1q n' e' K=dy 1 0):decide (false=n'/\e=e'/\L=K)=decide (Q1q false e L=1):=by
 refine decide_eq_decide.2 ⟨fun ⟨a,b,c⟩=>?_,fun h=>?_⟩
 ·subst a;subst b;subst c;rw[hv];rfl
 ·exact Qty h1 l1 h2 l2 (h.trans hv.symm)
theorem Qgi (k:Nat) (m:Q05) (a:Option Addr) (l c:Nat) (b:Option Addr) (n d:Nat) (w:World) (hw:WordsIn w a l c m.ws) (he:Q0k w b n d m.es) (hok:OkM k m) (hk4:k<=4) (hT:Q24 w) (hP:Qmp w):
 Calls Tryz.prog 33 #[.agg #[.bool m.neg,.int .i64 m.exp,.slice a l c,.slice b n d]] w fun r w'=>r=.returned (sv (Q11 m.term))/\Below w.heap.size w w':=by
 have hX:=Q2s.new w (.bool m.neg) (.int .i64 m.exp) (.slice a l c) (.slice b n d) 44
 have hbx:Below w.heap.size w (w.alloc (.cells #[.bool m.neg,.int .i64 m.exp,.slice a l c,.slice b n d] 44)):=(Below.refl _ _).alloc (Nat.le_refl _) _
 have hlx:=Q0f w (.cells #[.bool m.neg,.int .i64 m.exp,.slice a l c,.slice b n d] 44)
 have hlen:=he.len
 have hes:m.es.length<=4:=by have:=hok.1.1.1;omega
 have hsm:=Q2a hok.1.1
 have hcap:=he.cap
 have hmost:=he.most
 have e0:=hX.c0
 have e1:=hX.c1
 have e2:=hX.c2
 have e3:=hX.c3
 have H:=Xh9 hw he hok hT hP hX hbx hlx hsm
 clear hw he hok hT hP hX hbx hlx hsm
 go_enter Tryz.func33,Tryz.ntmps33
 go_wp2_with fail
 generalize hW1:w.alloc (.cells #[.bool m.neg,.int .i64 m.exp,.slice a l c,.slice b n d] 44)=W1 at e0 e1 e2 e3 H⊢
 clear hW1
 go_loopw [3,10] (fun s3 s10 wr=>Quo W1 m.es s3 s10 wr) (fun _ iv _=>n-(intOf iv).toNat)
 case atStart=>exact ⟨0,none,0,0,rfl,rfl,Nat.zero_le _,Nat.le_refl _,Row.nil_ _ _ _ _,Below.refl _ _⟩
 case round=>
  obtain ⟨i,a3,n3,c3,rfl,rfl,hi,hn3,hstr,hbr⟩:=hrel
  by_cases hlt:i<m.es.length
  ·have hlt':(i:Int)<(n:Int):=by omega
   obtain ⟨x,hx⟩:∃x,m.es[i]?=some x:=⟨_,List.getElem?_eq_getElem hlt⟩
   obtain ⟨b0,o0,hae,hb0,hcx⟩:=(((Xo1 H).step (Xo6 H)).step hbr).rd.at_ hx
   subst hae
   obtain ⟨hx0,hx8⟩:=(Xe8 H) x (List.mem_of_getElem? hx)
   have hsn:=Qmq hx
   have hit:=Tryz.Qxu (i+1) (by omega) wr
   rw[show ((i+1:Nat):Int)=(i:Int)+1 by omega] at hit
   obtain ⟨q,hq⟩:∃q,Lib.decDigits (i+1)=[q]:=⟨_,Q1z (by omega)⟩
   rw[hq] at hit
   have hwr:wrap64 ((i:Int)+1)=(i:Int)+1:=by unfold wrap64;omega
   have HS:=Xh6 hstr hbr hsn hit hq hx
   clear hstr hbr hsn hit hq hx
   by_cases h1:x=1
   ·subst h1
    obtain ⟨a5,c5,w5,hrun5,hstr5,hb5⟩:=Qd6 77 W1 wr (Xo1 HS) a3 n3 c3 _ (Xo0 HS) [120,q] (by omega) (.string ⟨#[120,q]⟩) rfl
    have H5:=Xh2 hstr5 hb5
    clear hstr5 hb5
    go_wp2_with (first|(at_builtin;refine Q0a rfl (.tmp 18) (.tmp 23) 77 77 rfl _ _ rfl rfl _ _ hrun5 ?_)|(refine (Xo3 HS).mono ?_;rintro r w4 ⟨rfl,rfl⟩))
    refine ⟨⟨i+1,a5,n3+1,c5,rfl,congrArg (Value.int .i64) (by omega),hlt,by omega,?_,(Xe1 H5)⟩,by simp only[intOf];omega⟩
    rw[(Xo2 HS),show Qfc i 1=[[120,q]] by rw[Qfc,if_pos rfl,show dec (i+1)=[q] from (Xo4 HS)]]
    exact (Xo0 H5)
   ·have h1':(x==1)=false:=beq_eq_false_iff_ne.2 h1
    by_cases h2:1<x
    ·obtain ⟨K,hK⟩:∃K:Nat,x=(K:Int):=⟨x.toNat,by omega⟩
     subst hK
     have hit2:=Tryz.Qxu K (by omega) wr
     obtain ⟨q2,hq2⟩:∃q2,Lib.decDigits K=[q2]:=⟨_,Q1z (by omega)⟩
     rw[hq2] at hit2
     obtain ⟨a5,c5,w5,hrun5,hstr5,hb5⟩:=Qd6 77 W1 wr (Xo1 HS) a3 n3 c3 _ (Xo0 HS) [120,q,94,q2] (by omega) (.string ⟨#[120,q,94,q2]⟩) rfl
     have h1n:¬K=1:=by omega
     have h2n:1<K:=by omega
     have H5:=Xh6 hstr5 hb5 hit2 hq2 h1n h2n
     clear hstr5 hb5 hit2 hq2 h1n h2n
     go_wp2_with (first|(at_builtin;refine Q0a rfl (.tmp 28) (.tmp 37) 77 77 rfl _ _ rfl rfl _ _ hrun5 ?_)|(go_at_call_of 67 (Value.int .i64 (K:Int));refine (Xo2 H5).mono ?_;rintro r w6 ⟨rfl,rfl⟩)|(refine (Xo3 HS).mono ?_;rintro r w4 ⟨rfl,rfl⟩))
     refine ⟨⟨i+1,a5,n3+1,c5,rfl,congrArg (Value.int .i64) (by omega),hlt,by omega,?_,(Xo1 H5)⟩,by simp only[intOf];omega⟩
     rw[(Xo2 HS),show Qfc i (K:Int)=[[120,q,94,q2]] by
      rw[Qfc,if_neg h1,if_pos h2,show dec (i+1)=[q] from (Xo4 HS),show (K:Int).toNat=K by omega,show dec K=[q2] from (Xo3 H5)]
      rfl]
     exact (Xo0 H5)
    ·have h2':¬(1<x):=h2
     have HX0:=Xh2 h1 h2
     clear h1 h2
     go_wp2_with fail
     refine ⟨⟨i+1,a3,n3,c3,rfl,congrArg (Value.int .i64) (by omega),hlt,by omega,?_,(Xo1 HS)⟩,by simp only[intOf];omega⟩
     rw[(Xo2 HS),show Qfc i x=[] by rw[Qfc,if_neg (Xo0 HX0),if_neg (by have:=(Xe1 HX0);omega)],List.append_nil]
     exact (Xo0 HS)
  ·have hlt':¬((i:Int)<(n:Int)):=by omega
   have hie:i=m.es.length:=by omega
   rw[hie,List.take_length] at hstr
   have HS:=Xh2 hstr hbr
   clear hstr hbr hie
   have hlT:(Q2j 0 m.es).length=n3:=by have:=(Xo0 HS).len;simpa using this
   have hn3':n3<=4:=by omega
   have habs:=Qln m.neg m.exp a l c m.ws wr (((Xo0 H).step (Xo6 H)).step (Xe1 HS)) (Xo2 H).1.2 (Xo2 H).2
   have f0:=((Xe1 HS).cell (p:=⟨w.heap.size,0,none⟩) (Xo7 H)).trans e0
   have f1:=((Xe1 HS).cell (p:=⟨w.heap.size,1,none⟩) (Xo7 H)).trans e1
   have f2:=((Xe1 HS).cell (p:=⟨w.heap.size,2,none⟩) (Xo7 H)).trans e2
   have hlow:=(Xo0 H).low
   obtain ⟨g1,g2,g3,g4⟩:=Qgh (Xo2 H) hlow
   have hshort:=(Q7a m.es 0 (by omega) (fun x hx=>((Xe8 H) x hx).2)).1
   have hall:∀t∈[Q3c false m.exp m.ws]++Q2j 0 m.es,t.length<=1400:=fun t ht=>by
    rcases List.mem_append.1 ht with h|h
    ·rw[List.mem_singleton] at h;rw[h];exact g4
    ·have:=hshort t h;omega
   have HA:=Xh6 habs hlT g1 g2 g3 hall
   clear habs hlT g1 g2 g3 g4 hshort hall hlow
   by_cases hT0:Q2j 0 m.es=[]
   ·have hn0:((n3:Int)==0)=true:=by rw[<-(Xo1 HA),hT0];rfl
    have HT0:=Lib.hid hT0
    clear hT0
    go_upto_region 11 with (go_at_call_of 68 (Value.agg #[.bool m.neg,.int .i64 m.exp,.slice a l c]);refine (Xo0 HA).mono ?_;rintro r w4 ⟨a4,l4,c4,rfl,hnw,hb4⟩;have H4:=Xh2 hnw hb4;clear hnw hb4)
    go_quiet (fail)
    have hbq:Below W1.heap.size W1 ((w4.alloc (.cells #[.bool false,.int .i64 m.exp,.slice a4 l4 c4] 41)).drewN nq):=Below.drewN' ((Below.next0 (Xe1 HS) (Xe1 H4)).alloc (Below.next0 (Xe1 HS) (Xe1 H4)).size _) _
    have hN:=Q04.new w4 (.bool false) (.int .i64 m.exp) (.slice a4 l4 c4) 41
    have hwq:WordsIn ((w4.alloc (.cells #[.bool false,.int .i64 m.exp,.slice a4 l4 c4] 41)).drewN nq) a4 l4 c4 m.ws:=(Xo0 H4).toWordsIn.step (Below.drewN' ((Below.refl _ _).alloc (Nat.le_refl _) _) _)
    have hsq:Qnk ((w4.alloc (.cells #[.bool false,.int .i64 m.exp,.slice a4 l4 c4] 41)).drewN nq) W1.heap.size a3 n3 c3 (Q2j 0 m.es):=((Xo0 HS).call (Xe1 H4)).alloc _
    generalize hWq:(w4.alloc (.cells #[.bool false,.int .i64 m.exp,.slice a4 l4 c4] 41)).drewN nq=Wq at hbq hwq hsq⊢
    have n0:Wq.cell? ⟨w4.heap.size,0,none⟩=some (.bool false):=by rw[<-hWq];exact hN.c0
    have n1:Wq.cell? ⟨w4.heap.size,1,none⟩=some (.int .i64 m.exp):=by rw[<-hWq];exact hN.c1
    have n2:Wq.cell? ⟨w4.heap.size,2,none⟩=some (.slice a4 l4 c4):=by rw[<-hWq];exact hN.c2
    clear hWq
    have htx:=Qkr false m.exp a4 l4 c4 m.ws Wq hwq (by have:=Q2b (Xo4 HA) (Xo0 H4).toWordsIn;omega) (by have:=Q2b (Xo4 HA) (Xo0 H4).toWordsIn;omega) ((Xo4 H).step (Below.next0 (Xo6 H) hbq))
    have HQ:=Xh3 hbq hsq htx
    clear hbq hwq hsq htx hN
    go_wp2_with (first
     |(go_at_call_of 69 (Value.agg #[.bool false,.int .i64 m.exp,.slice a4 l4 c4]);refine (Xe2 HQ).mono ?_;rintro r w7 ⟨rfl,hb7⟩
       have hb7w:=Below.next0 (Xo0 HQ) hb7
       obtain ⟨a8,c8,w8,hrun8,hs8,hb8⟩:=Qbm 77 W1 (w7.alloc (.cells #[sv (Q3c false m.exp m.ws)] 9)) (hb7w.alloc hb7w.size _) (some ⟨w7.heap.size,0,none⟩) 1 1 [Q3c false m.exp m.ws] ((Row.lit w7 (Nat.le_refl _) 9 1 #[sv (Q3c false m.exp m.ws)] 1 (by decide) rfl).lower hb7w.size) W1.heap.size a3 n3 c3 (Q2j 0 m.es) (((Xo1 HQ).call hb7).alloc _) (by omega)
       have hN8:1+n3<=1000:=by omega
       generalize 1+n3=N8 at hrun8 hs8 hN8
       have hjn:=Qbn hs8 hN8 (Xe5 HA)
       have H8:=Xh2 hjn hb8
       clear hb7 hb7w hs8 hb8 hjn)
     |(at_builtin;refine Q0a rfl (.tmp 54) (.tmp 55) 77 77 rfl _ _ rfl rfl _ _ hrun8 ?_)
     |(go_at_call_of 70 (Value.slice a8 N8 c8);refine (Xo0 H8).mono ?_;rintro r w9 ⟨rfl,hb9⟩;have H9:=Lib.hid hb9;clear hb9))
    go_ret
    refine ⟨?_,Below.next0 (Xo6 H) (Below.next0 (Xe1 H8) H9.out)⟩
    rw[Q11,Q3p,if_pos (by exact .inl HT0.out),(Xo3 HA)]
    rfl
   ·have hn0:((n3:Int)==0)=false:=by
     rw[beq_eq_false_iff_ne]
     intro e
     exact hT0 (List.eq_nil_of_length_eq_zero (by rw[(Xo1 HA)];omega))
    have HT0:=Lib.hid hT0
    clear hT0
    go_upto_region 11 with (go_at_call_of 68 (Value.agg #[.bool m.neg,.int .i64 m.exp,.slice a l c]);refine (Xo0 HA).mono ?_;rintro r w4 ⟨a4,l4,c4,rfl,hnw,hb4⟩;have H4:=Xh2 hnw hb4;clear hnw hb4)
    have hbq:Below W1.heap.size W1 (w4.alloc (.cells #[.bool false,.int .i64 m.exp,.slice a4 l4 c4] 41)):=(Below.next0 (Xe1 HS) (Xe1 H4)).alloc (Below.next0 (Xe1 HS) (Xe1 H4)).size _
    have hN:=Q04.new w4 (.bool false) (.int .i64 m.exp) (.slice a4 l4 c4) 41
    have hwq:WordsIn (w4.alloc (.cells #[.bool false,.int .i64 m.exp,.slice a4 l4 c4] 41)) a4 l4 c4 m.ws:=(Xo0 H4).toWordsIn.step ((Below.refl _ _).alloc (Nat.le_refl _) _)
    have hsq:Qnk (w4.alloc (.cells #[.bool false,.int .i64 m.exp,.slice a4 l4 c4] 41)) W1.heap.size a3 n3 c3 (Q2j 0 m.es):=((Xo0 HS).call (Xe1 H4)).alloc _
    have hlq:=Q0f w4 (.cells #[.bool false,.int .i64 m.exp,.slice a4 l4 c4] 41)
    generalize hWq:w4.alloc (.cells #[.bool false,.int .i64 m.exp,.slice a4 l4 c4] 41)=Wq at hbq hN hwq hsq hlq⊢
    clear hWq
    have n0:=hN.c0
    have n1:=hN.c1
    have n2:=hN.c2
    have HQ:=Xh5 hbq hN hwq hsq hlq
    clear hbq hN hwq hsq hlq
    go_cut [51] (fun v wx=>∃bb,v=.bool bb/\(!decide (Q1q false m.exp m.ws=1))=bb/\Below Wq.heap.size Wq wx)
    case first=>
     go_region_with (first
      |(go_at_call_of 20 (Value.int .i64 1)
        refine (Q8p 1 _ (by decide) (((Xo3 H).step (Below.next0 (Xo6 H) (Xo0 HQ))).step (by first|exact Below.refl _ _|exact Q08 _))).mono ?_
        rintro r w5 ⟨n5,e5,a5,l5,c5,L5,rfl,hi5,hv5,hw5,hb5⟩
        have hb5':Below Wq.heap.size Wq w5:=by first|exact hb5|exact Below.next0 (Q08 _) hb5
        have k0:=(hb5'.cell (p:=⟨w4.heap.size,0,none⟩) (Xe4 HQ)).trans n0
        have k1:=(hb5'.cell (p:=⟨w4.heap.size,1,none⟩) (Xe4 HQ)).trans n1
        have k2:=(hb5'.cell (p:=⟨w4.heap.size,2,none⟩) (Xe4 HQ)).trans n2
        have hsm:=Qi1 false m.exp a4 l4 c4 m.ws n5 e5 a5 l5 c5 L5
        have hso:=Qsm (Xo4 HA) (Xo2 HQ).low hi5 hw5.toWordsIn.low hv5
        have H5:=Xh4 hb5' hw5 hsm hso
        clear hb5 hb5' hw5 hsm hso hi5 hv5)
      |(go_at_call_of 19 (Value.agg #[.bool false,.int .i64 m.exp,.slice a4 l4 c4])
        refine ((Xo2 H5) _ (((Xo2 HQ).step (Xo0 H5)).step (by first|exact Below.refl _ _|exact Q08 _)) ((Xo1 H5).toWordsIn.step (by first|exact Below.refl _ _|exact Q08 _)) (by have:=Q2b (Xo4 HA) (Xo2 HQ);omega)).mono ?_
        rintro r w6 ⟨rfl,hb6⟩
        rw[(Xe3 H5)]
        have hb6':Below Wq.heap.size Wq w6:=by first|exact Below.next0 (Xo0 H5) hb6|exact Below.next0 (Xo0 H5) (Below.next0 (Q08 _) hb6)
        have H6:=Lib.hid hb6'
        clear hb6 hb6'))
     all_goals go_wp2_with fail
     all_goals go_meet
     all_goals exact ⟨_,rfl,rfl,H6.out⟩
    case rest=>
     obtain ⟨bb,rfl,hbb,hbc⟩:=hcut
     have r0:=(hbc.cell (p:=⟨w4.heap.size,0,none⟩) (Xe4 HQ)).trans n0
     have r1:=(hbc.cell (p:=⟨w4.heap.size,1,none⟩) (Xe4 HQ)).trans n1
     have r2:=(hbc.cell (p:=⟨w4.heap.size,2,none⟩) (Xe4 HQ)).trans n2
     have hbw:=Below.next0 (Xo0 HQ) hbc
     have hsc:Qnk wc W1.heap.size a3 n3 c3 (Q2j 0 m.es):=(Xo3 HQ).call hbc
     have hwc:=(Xo2 HQ).step hbc
     clear n0 n1 n2
     cases bb with
     |false=>
      have h1:Q1q false m.exp m.ws=1:=by simpa using hbb
      have hjn:=Qbn hsc (by omega) (fun t ht=>(Xe5 HA) t (by simp[ht]))
      have HR:=Xh3 h1 hjn hbw
      clear h1 hjn hbw hsc hwc hbb hbc
      go_wp2_with (go_at_call_of 70 (Value.slice a3 n3 c3);refine (Xo1 HR).mono ?_;rintro r w9 ⟨rfl,hb9⟩;have H9:=Lib.hid hb9;clear hb9)
      go_ret
      refine ⟨?_,Below.next0 (Xo6 H) (Below.next0 (Xe2 HR) H9.out)⟩
      rw[Q11,Q3p,if_neg (by
       rintro (h|h)
       ·exact HT0.out h
       ·exact h ((Xo2 HA).trans (Xo0 HR)))]
      rfl
     |true=>
      have h1:Q1q false m.exp m.ws≠1:=by simpa using hbb
      have htx:=Qkr false m.exp a4 l4 c4 m.ws wc hwc (by have:=Q2b (Xo4 HA) hwc;omega) (by have:=Q2b (Xo4 HA) hwc;omega) ((Xo4 H).step (Below.next0 (Xo6 H) hbw))
      have HR:=Xh4 hbw hsc htx h1
      clear h1 htx hbw hsc hwc hbb hbc
      go_wp2_with (first
       |(go_at_call_of 69 (Value.agg #[.bool false,.int .i64 m.exp,.slice a4 l4 c4]);refine (Xo2 HR).mono ?_;rintro r w7 ⟨rfl,hb7⟩
         have hb7w:=Below.next0 (Xo0 HR) hb7
         obtain ⟨a8,c8,w8,hrun8,hs8,hb8⟩:=Qbm 77 W1 (w7.alloc (.cells #[sv (Q3c false m.exp m.ws)] 9)) (hb7w.alloc hb7w.size _) (some ⟨w7.heap.size,0,none⟩) 1 1 [Q3c false m.exp m.ws] ((Row.lit w7 (Nat.le_refl _) 9 1 #[sv (Q3c false m.exp m.ws)] 1 (by decide) rfl).lower hb7w.size) W1.heap.size a3 n3 c3 (Q2j 0 m.es) (((Xo1 HR).call hb7).alloc _) (by omega)
         have hN8:1+n3<=1000:=by omega
         generalize 1+n3=N8 at hrun8 hs8 hN8
         have hjn:=Qbn hs8 hN8 (Xe5 HA)
         have H8:=Xh2 hjn hb8
         clear hb7 hb7w hs8 hb8 hjn)
       |(at_builtin;refine Q0a rfl (.tmp 54) (.tmp 55) 77 77 rfl _ _ rfl rfl _ _ hrun8 ?_)
       |(go_at_call_of 70 (Value.slice a8 N8 c8);refine (Xo0 H8).mono ?_;rintro r w9 ⟨rfl,hb9⟩;have H9:=Lib.hid hb9;clear hb9))
      go_ret
      refine ⟨?_,Below.next0 (Xo6 H) (Below.next0 (Xe1 H8) H9.out)⟩
      rw[Q11,Q3p,if_pos (by exact .inr fun h=>(Xe3 HR) ((Xo2 HA).symm.trans h)),(Xo3 HA)]
      rfl
end Go.Proofs.YtdilmfakkppgpaaGreatDoor
namespace Go.Proofs.YtdilmfakkppgpaaGreatDoor
open Go.RowKit
theorem Qqb (B b:Nat) (l:List UInt8) (w:World) (h:Lib.IsBuilder 66 5 B b (Lib.byteCells l) w):
 Calls Tryz.prog 66 #[.pointer (some ⟨b,0,none⟩)] w fun e w'=>e=.returned (.tuple #[])/\Q33 B b (.pointer (some ⟨b,0,none⟩)) l w'/\Below B w w'/\w'.heap.size=w.heap.size/\∀k,k≠b->w'.heap[k]?=w.heap[k]?:=by
 rcases h with h|h
 ·refine (Qd4 b w h.cell0 h.shape h.frozen0).mono ?_
  rintro e w' ⟨rfl,rfl⟩
  exact ⟨rfl,h.used _,(Below.refl B w).setCell (p:=⟨b,0,none⟩) h.1 _,by simp,fun k hk=>Below.heap_setCell _ _ _ _ hk⟩
 ·refine (Qgf b w h.cell0).mono ?_
  rintro e w' ⟨rfl,rfl⟩
  exact ⟨rfl,h,Below.refl B _,rfl,fun _ _=>rfl⟩
theorem Q27 (B b:Nat) (l t:List UInt8) (w:World) (h:Lib.IsBuilder 66 5 B b (Lib.byteCells l) w) (hlen:l.length+t.length<=140737488355328) (hBw:B<=w.heap.size):
 Calls Tryz.prog 31 #[.pointer (some ⟨b,0,none⟩),sv t] w fun e w'=>e=.returned (.tuple #[.int .i64 (t.length:Int),.nilIface])/\Q33 B b (.pointer (some ⟨b,0,none⟩)) (l++t) w'/\Below B w w'/\∀k cur T fr,w.heap[k]?=some (.cells cur T fr)->T≠5->k≠b->w'.heap[k]?=w.heap[k]?:=by
 obtain ⟨i0,hi,hz0,hz1,hz2⟩:=info_parts Qnn
 have HI:=Lib.hid h
 clear h
 go_enter Tryz.func31,Tryz.ntmps31
 go_wp2_with (refine (Qqb B b l _ HI.out).mono ?_)
 rintro e w1 ⟨rfl,h1,hb1,hsz,hkp⟩
 obtain ⟨hB,v,hbk,hown,hne⟩:=h1
 have hsz1:B<=w1.heap.size:=by omega
 have HSZ:=Xh2 hsz hkp
 clear hsz hkp
 have c0:w1.cell? ⟨b,0,none⟩=some (.pointer (some ⟨b,0,none⟩)):=by rw[Lib.cell_of_heap hbk];rfl
 have c1:w1.cell? ⟨b,1,none⟩=some v:=by rw[Lib.cell_of_heap hbk];rfl
 have hlt:b<w1.heap.size:=(Array.getElem?_eq_some_iff.1 hbk).1
 have HBK:=Lib.hid hbk
 have hcl:(Lib.byteCells l).length+(⟨t.toArray⟩:ByteArray).size<=140737488355328:=by rw[Lib.byteCells_length];exact hlen
 have hcm:(Lib.byteCells l).length+(⟨t.toArray⟩:ByteArray).size<=maxLen:=by unfold maxLen;omega
 clear hbk
 go_wp2_with (at_builtin;refine Lib.wpList_append_own_string _ rfl _ _ 33 9 rfl B 5 i0 Tryz.underlying33 Tryz.underlying9 hi hz0 hz1 hz2 _ _ _ rfl hown ⟨t.toArray⟩ rfl hcm hcl hsz1 ?_)
 intro v' w2 hown' hgrow _
 have hb2:w2.heap[b]?=some (.cells #[.pointer (some ⟨b,0,none⟩),v] 66 (0,0)):=by
  rw[hgrow.block b hlt (fun e=>hne e.symm)]
  exact HBK.out
 have d0:w2.cell? ⟨b,0,none⟩=some (.pointer (some ⟨b,0,none⟩)):=by rw[Lib.cell_of_heap hb2];rfl
 have d1:w2.cell? ⟨b,1,none⟩=some v:=by rw[Lib.cell_of_heap hb2];rfl
 have f1:w2.frozen? ⟨b,1,none⟩=false:=Lib.frozen_of_heap hb2 1
 obtain ⟨ao,n',cap,rfl⟩:∃ao n' cap,v'=.slice ao n' cap:=by
  rcases hown'.2 with ⟨hv,_⟩|⟨g,cap,cur,hv,_⟩
  ·exact ⟨_,_,_,hv⟩
  ·exact ⟨_,_,_,hv⟩
 have HE:=Xh4 hb2 hown' hgrow hb1
 clear hb2 hown' hgrow hb1 hcl hcm
 go_wp2_with fail
 go_ret2
 obtain ⟨hb2,hown',hgrow,hb1⟩:=HE.out
 refine ⟨rfl,?_,?_,fun k cur T fr hk hT hkb=>?_⟩
 ·refine Lib.BuilderAt.put (T:=66) (e:=5) hB hb2 (bs':=Lib.byteCells (l++t)) ?_ (by decide)
  rw[Q86]
  have e1:Lib.strCells ⟨t.toArray⟩=Lib.byteCells t:=rfl
  rw[<-e1,List.length_append,Lib.strCells_length]
  exact hown'
 ·exact (hb1.grown hgrow (by omega) (fun k hk=>(hown.lt k hk).1)).setCell (p:=⟨b,1,none⟩) hB _
 ·have hk1:w1.heap[k]?=w.heap[k]?:=(Xe1 HSZ) k hkb
  have hklt:k<w1.heap.size:=(Array.getElem?_eq_some_iff.1 (hk1.trans hk)).1
  rw[Below.heap_setCell _ _ _ _ hkb,hgrow.block k hklt (fun e=>?_),hk1]
  rcases hown.2 with ⟨hv,_⟩|⟨g,cap,cur2,hv,_,hh,_⟩
  ·rw[hv] at e;simp[Value.ownBlock] at e
  ·rw[hv] at e
   simp only[Value.ownBlock,Option.some.injEq] at e
   subst e
   rw[hk1,hk] at hh
   injection hh with hh
   injection hh with _ hh _
   exact hT hh
end Go.Proofs.YtdilmfakkppgpaaGreatDoor
