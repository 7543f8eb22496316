/- Part 27 of the proof of LawParseShows: OpenM, RefCS, RefSub, BndM, FlatL, RefV0, RefMA, RRdr. Condition: as each theorem says; none at the end. -/
import Derived.Deep.Slices
import Derived.ChangeSame
import Derived.Test.YtdilmfakkppgpaaGreatDoorPkParseShows26
set_option maxRecDepth 100000
set_option maxHeartbeats 16000000
namespace Go.Proofs.YtdilmfakkppgpaaGreatDoor
open Go.ChangeShapes Go.WideShapes Go.Deep Go.RowKit WordsM
section
variable {H:Type} {enc:TypeId × Value->H} {W:World} {sp:Nat->Bool} {hd:Bool} {fuel:Nat} {y:DataW H × List MemPlace}
theorem Qkd {v:Value} (h:DataW.trod enc Tryz.prog W 0 sp hd fuel 42 [v]=some y):∃(a:Option Addr) (n c:Nat) (E:List Int),v=.slice a n c/\Q0i W a n c E:=by
 rcases open_ints Tryz.underlying42 Tryz.underlying3 (by kernel_rfl) h with ⟨hcs,_⟩|⟨x,l,c,zs,hcs,_,hl,hm,hz,_,hcell,hwz⟩
 ·injection hcs with hv _
  exact ⟨none,0,0,[],hv,rfl,Nat.le_refl _,by decide,fun _ hx=>(by cases hx),Or.inl rfl⟩
 ·injection hcs with hv _
  unfold maxLen at hm
  have hzl:l<=zs.length:=by rw[hz];split <;> omega
  refine ⟨some x,l,c,zs.take l,hv,by simp;omega,hl,by omega,fun z hzm=>?_,?_⟩
  ·have:=hwz z (List.mem_of_mem_take hzm)
   simpa[Lit.wf,IntKind.min,IntKind.max,IntKind.signed,IntKind.bits] using this
  ·by_cases h0:l=0
   ·exact .inl (by simp[h0])
   ·obtain ⟨b,o,spot⟩:=x
    have h1:=hcell 0 (by omega)
    have hspot:spot=none:=by simpa[Addr.add] using World.cell?_spot h1
    subst hspot
    have hb:b<W.heap.size:=by
     have:=block_lt_of_cell h1
     rwa[show (Addr.add ⟨b,o,none⟩ 0).block=b by simp[Addr.add]] at this
    refine .inr ⟨b,o,rfl,hb,fun j z hy=>?_⟩
    rw[List.getElem?_take] at hy
    split at hy
    ·have hjl:j<zs.length:=(List.getElem?_eq_some_iff.1 hy).1
     have h2:=hcell j hjl
     rw[Addr.add_lit] at h2
     have e:zs.getD j 0=z:=by rw[List.getD_eq_getElem?_getD,hy];rfl
     rw[h2,e]
    ·cases hy
theorem Qnp {cs:List Value} (h:DataW.trod enc Tryz.prog W 0 sp hd fuel 44 cs=some y):
 ∃(m:Q04) (aw:Option Addr) (lw cw:Nat) (ae:Option Addr) (le ce:Nat),cs=[.bool m.neg,.int .i64 m.exp,.slice aw lw cw,.slice ae le ce]/\WordsIn W aw lw cw m.ws/\Q0i W ae le ce m.es/\-9223372036854775808<=m.exp/\m.exp<=9223372036854775807:=by
 obtain ⟨ys,n1,_,_,hlen,hyl,hf⟩:=DataW.trod_struct Tryz.underlying44 h
 have hl4:cs.length=4:=hlen
 have hN:=hf 0 _ rfl
 have hE:=hf 1 _ rfl
 match cs,hl4,ys,hyl with
 |[c0,c1,c2,c3],_,[y0,y1],_=>
  have hE:DataW.trod enc Tryz.prog W 0 sp hd n1 42 [c3]=some y1:=hE
  have hN:DataW.trod enc Tryz.prog W 0 sp hd n1 41 [c0,c1,c2]=some y0:=hN
  obtain ⟨zs,n2,_,_,_,hzl,hg⟩:=DataW.trod_struct Tryz.underlying41 hN
  have g0:=hg 0 _ rfl
  have g1:=hg 1 _ rfl
  have g2:=hg 2 _ rfl
  match zs,hzl with
  |[z0,z1,z2],_=>
   have g0:DataW.trod enc Tryz.prog W 0 sp hd n2 4 [c0]=some z0:=g0
   have g1:DataW.trod enc Tryz.prog W 0 sp hd n2 2 [c1]=some z1:=g1
   have g2:DataW.trod enc Tryz.prog W 0 sp hd n2 23 [c2]=some z2:=g2
   obtain ⟨neg,e0,_⟩:=DataW.trod_bool Tryz.underlying4 g0
   obtain ⟨exp,e1,_,hw⟩:=DataW.trod_int Tryz.underlying2 g1
   obtain ⟨a,n,c,ks,e2,hws⟩:=Qkc g2
   obtain ⟨ae,le,ce,E,e3,hes⟩:=Qkd hE
   injection e0 with e0 _
   injection e1 with e1 _
   subst e0 e1 e2 e3
   have hr: -9223372036854775808<=exp/\exp<=9223372036854775807:=by
    simpa[Lit.wf,IntKind.min,IntKind.max,IntKind.signed,IntKind.bits] using hw
   exact ⟨⟨neg,exp,ks,E⟩,a,n,c,ae,le,ce,rfl,hws,hes,hr.1,hr.2⟩
theorem Qke {v:Value} (h:DataW.trod enc Tryz.prog W 0 sp hd fuel 25 [v]=some y):∃(a:Option Addr) (n c:Nat) (ms:List Q04),v=.slice a n c/\Q0e W a n c ms:=by
 rcases open_slice Tryz.underlying25 h with ⟨hcs,_⟩|⟨x,l,c,m,n,D,Pl,hcs,_,hl,hm,hmm,_,hi⟩
 ·injection hcs with hv _
  exact ⟨none,0,0,[],hv,rfl,Nat.le_refl _,by decide,Or.inl rfl⟩
 ·injection hcs with hv _
  unfold maxLen at hm
  have hlm:l<=m:=by rw[hmm];split <;> omega
  by_cases h0:l=0
  ·exact ⟨some x,l,c,[],hv,h0.symm,hl,by omega,.inl rfl⟩
  have key:∀i,∃q:Q04,i<l->∃(aw:Option Addr) (lw cw:Nat) (ae:Option Addr) (le ce:Nat),(∀(j:Nat) u,[Value.bool q.neg,.int .i64 q.exp,.slice aw lw cw,.slice ae le ce][j]?=some u->W.cell? (x.add (i*4+j))=some u)/\WordsIn W aw lw cw q.ws/\Q0i W ae le ce q.es/\-9223372036854775808<=q.exp/\q.exp<=9223372036854775807:=by
   intro i
   by_cases hil:i<l
   rotate_left
   ·exact ⟨⟨false,0,[],[]⟩,fun h=>absurd h hil⟩
   obtain ⟨cs',hc,ht'⟩:=hi i (by omega)
   obtain ⟨q,aw,lw,cw,ae,le,ce,hcs',h1,h2,h3,h4⟩:=Qnp ht'
   obtain ⟨_,hcl,hat⟩:=World.cells?_some hc
   refine ⟨q,fun _=>⟨aw,lw,cw,ae,le,ce,fun j u hj=>?_,h1,h2,h3,h4⟩⟩
   have hj4:j<4:=(List.getElem?_eq_some_iff.1 hj).1
   have hC:Tryz.prog.cellsOf 44=4:=by kernel_rfl
   rw[hC] at hat
   rw[<-hcs'] at hj
   have:=hat j hj4
   rw[hj] at this
   rw[<-Go.Deep.add_add]
   exact this
  obtain ⟨F,hF⟩:∃F:Nat->Q04,∀i,i<l->∃(aw:Option Addr) (lw cw:Nat) (ae:Option Addr) (le ce:Nat),(∀(j:Nat) u,[Value.bool (F i).neg,.int .i64 (F i).exp,.slice aw lw cw,.slice ae le ce][j]?=some u->W.cell? (x.add (i*4+j))=some u)/\WordsIn W aw lw cw (F i).ws/\Q0i W ae le ce (F i).es/\-9223372036854775808<=(F i).exp/\(F i).exp<=9223372036854775807:=⟨fun i=>Classical.choose (key i),fun i=>Classical.choose_spec (key i)⟩
  obtain ⟨b,o,spot⟩:=x
  obtain ⟨_,_,_,_,_,_,hc0,_⟩:=hF 0 (by omega)
  have h1:=hc0 0 _ rfl
  have hspot:spot=none:=by simpa[Addr.add] using World.cell?_spot h1
  subst hspot
  have hb:b<W.heap.size:=by
   have:=block_lt_of_cell h1
   rwa[show (Addr.add ⟨b,o,none⟩ (0*4+0)).block=b by simp[Addr.add]] at this
  refine ⟨some ⟨b,o,none⟩,l,c,(List.range l).map F,hv,by simp,hl,by omega,.inr ⟨b,o,rfl,hb,fun j m hm=>?_⟩⟩
  rw[List.getElem?_map] at hm
  by_cases hj:j<l
  ·rw[List.getElem?_range hj] at hm
   simp only[Option.map_some,Option.some.injEq] at hm
   subst hm
   obtain ⟨aw,lw,cw,ae,le,ce,hc,k1,k2,k3,k4⟩:=hF j hj
   have c0:=hc 0 _ rfl
   have c1:=hc 1 _ rfl
   have c2:=hc 2 _ rfl
   have c3:=hc 3 _ rfl
   rw[Addr.add_lit] at c0 c1 c2 c3
   exact ⟨aw,lw,cw,ae,le,ce,c0,by rw[Nat.add_assoc];exact c1,by rw[Nat.add_assoc];exact c2,by rw[Nat.add_assoc];exact c3,k1,k2,k3,k4⟩
  ·rw[List.getElem?_eq_none (by simpa using hj)] at hm
   cases hm
end
theorem Qkf {H:Type} {enc:TypeId × Value->H} {W:World} {sp:Nat->Bool} {hd:Bool} {a:Option Addr} {len cap:Nat} {d:DataW H} {p:List MemPlace}
 (h:DataW.Trod enc Tryz.prog W 0 sp hd 22 (.slice a len cap) d p):∃F:List (List Q04),Q2r W a len cap F:=by
 obtain ⟨fuel,hf⟩:=h
 have hf:DataW.trod enc Tryz.prog W 0 sp hd fuel 22 [.slice a len cap]=some (d,p):=hf
 rcases open_slice Tryz.underlying22 hf with ⟨hcs,_⟩|⟨x,l,c,m,n,D,Pl,hcs,_,hl,hm,hmm,_,hi⟩
 ·simp only[List.cons.injEq,Value.slice.injEq,and_true] at hcs
  obtain ⟨rfl,rfl,rfl⟩:=hcs
  exact ⟨[],rfl,Nat.le_refl _,by decide,Or.inl rfl⟩
 ·simp only[List.cons.injEq,Value.slice.injEq,and_true] at hcs
  obtain ⟨rfl,rfl,rfl⟩:=hcs
  unfold maxLen at hm
  have hlm:len<=m:=by rw[hmm];split <;> omega
  by_cases h0:len=0
  ·exact ⟨[],h0.symm,hl,by omega,.inl rfl⟩
  have key:∀i,∃q:List Q04,i<len->∃(p:Option Addr) (l d:Nat),W.cell? (x.add i)=some (.slice p l d)/\Q0e W p l d q:=by
   intro i
   by_cases hil:i<len
   rotate_left
   ·exact ⟨[],fun h=>absurd h hil⟩
   obtain ⟨cs',hc,ht'⟩:=hi i (by omega)
   obtain ⟨_,hcl,hat⟩:=World.cells?_some hc
   have hC:Tryz.prog.cellsOf 25=1:=by kernel_rfl
   rw[hC] at hat hcl
   match cs',hcl with
   |[v],_=>
    obtain ⟨p',l',d',ms,rfl,hM⟩:=Qke ht'
    refine ⟨ms,fun _=>⟨p',l',d',?_,hM⟩⟩
    have:=hat 0 (by decide)
    rw[Nat.mul_one,Go.Deep.add_add,Nat.add_zero] at this
    exact this
  obtain ⟨F,hF⟩:∃F:Nat->List Q04,∀i,i<len->∃(p:Option Addr) (l d:Nat),W.cell? (x.add i)=some (.slice p l d)/\Q0e W p l d (F i):=⟨fun i=>Classical.choose (key i),fun i=>Classical.choose_spec (key i)⟩
  obtain ⟨b,o,spot⟩:=x
  obtain ⟨_,_,_,h1,_⟩:=hF 0 (by omega)
  have hspot:spot=none:=by simpa[Addr.add] using World.cell?_spot h1
  subst hspot
  have hb:b<W.heap.size:=by
   have:=block_lt_of_cell h1
   rwa[show (Addr.add ⟨b,o,none⟩ 0).block=b by simp[Addr.add]] at this
  refine ⟨(List.range len).map F,by simp,hl,by omega,.inr ⟨b,o,rfl,hb,fun j ms hm=>?_⟩⟩
  rw[List.getElem?_map] at hm
  by_cases hj:j<len
  ·rw[List.getElem?_range hj] at hm
   simp only[Option.map_some,Option.some.injEq] at hm
   subst hm
   obtain ⟨p',l',d',k1,k2⟩:=hF j hj
   rw[Addr.add_lit] at k1
   exact ⟨p',l',d',k1,k2⟩
  ·rw[List.getElem?_eq_none (by simpa using hj)] at hm
   cases hm
end Go.Proofs.YtdilmfakkppgpaaGreatDoor
namespace Go.Proofs.YtdilmfakkppgpaaGreatDoor
open Go.RowKit WordsM
def Qkg (v u:Nat):Int:=if v<u then -1 else if u<v then 1 else 0
theorem Qkh (a:Option Addr) (n c v:Nat) (b:Option Addr) (m d u:Nat) (w:World) (h1:Q0r w a n c v) (h2:Q0r w b m d u) (hn:n<=1000000):
 Calls Tryz.prog 60 #[.slice a n c,.slice b m d] w fun e w'=>e=.returned (.int .i64 (Qkg v u))/\Below w.heap.size w w':=by
 have hvA:val (2^32) (dig (2^32) v)=v:=Q0s (by decide) v
 have hvK:val (2^32) (dig (2^32) u)=u:=Q0s (by decide) u
 have hlA:=Q1q (B:=2^32) (by decide) v
 have hlK:=Q1q (B:=2^32) (by decide) u
 have hA1:=h1.len
 have hK1:=h2.len
 have hr1:=h1.rd
 have hr2:=h2.rd
 have hlenL:n<m->v<u:=fun h=>Nat.lt_of_not_le fun hle=>by
  have h3:=Q1h (B:=2^32) (by decide) hle
  omega
 have hlenR:m<n->u<v:=fun h=>Nat.lt_of_not_le fun hle=>by
  have h3:=Q1h (B:=2^32) (by decide) hle
  omega
 obtain ⟨A,hA⟩:∃A,dig (2^32) v=A:=⟨_,rfl⟩
 obtain ⟨K,hK⟩:∃K,dig (2^32) u=K:=⟨_,rfl⟩
 rw[hA] at hvA hlA hA1 hr1
 rw[hK] at hvK hlK hK1 hr2
 obtain ⟨r,hr⟩:∃r,Qkg v u=r:=⟨_,rfl⟩
 have H:=Xh6 hvA hvK hlA hlK hr1 hr2
 rw[hr]
 have HL:=Xh3 hlenL hlenR hr
 clear hvA hvK hlA hlK hr1 hr2 hA hK h1 h2 hlenL hlenR hr
 by_cases hne:n=m
 ·subst hne
  have hneI:((n:Int) != (n:Int))=false:=by simp
  go_enter Tryz.func60,Tryz.ntmps60
  go_wp2_with fail
  go_loopw [5] (fun iv wr=>∃j:Nat,iv=.int .i64 ((j:Int)-1)/\j<=n/\A.drop j=K.drop j/\Below w.heap.size w wr) (fun iv _=>(intOf iv+1).toNat)
  case atStart=>exact ⟨n,rfl,Nat.le_refl _,by rw[List.drop_of_length_le (by omega),List.drop_of_length_le (by omega)],Below.refl _ _⟩
  case round=>
   obtain ⟨j,rfl,hj,hdr,hb⟩:=hrel
   cases j with
   |zero=>
    have heq:A=K:=by simpa using hdr
    have hr0:r=0:=by
     rw[<-(Xe2 HL),<-(Xo0 H),<-(Xo1 H),heq]
     unfold Qkg
     rw[if_neg (Nat.lt_irrefl _),if_neg (Nat.lt_irrefl _)]
    have HE:=Xh2 hr0 hb
    clear hdr heq hb hr0
    go_wp2_with fail
    go_ret
    exact ⟨by rw[(Xo0 HE)];rfl,(Xe1 HE)⟩
   |succ j=>
    obtain ⟨x,hx⟩:∃x,A[j]?=some x:=⟨_,List.getElem?_eq_getElem (by omega)⟩
    obtain ⟨y,hy⟩:∃y,K[j]?=some y:=⟨_,List.getElem?_eq_getElem (by omega)⟩
    obtain ⟨g1,o1,hae,hg1,hcx⟩:=((Xo4 H).below hb).at_ hx
    obtain ⟨g2,o2,hbe,hg2,hcy⟩:=((Xe5 H).below hb).at_ hy
    subst hae hbe
    have hjI:((j+1:Nat):Int)-1=(j:Int):=by omega
    have hjA:(j:Int)<(n:Int):=by omega
    have hj0:((j:Int)≥0):=by omega
    have HH:=Xh4 hdr hb hx hy
    clear hdr hb hx hy
    rw[hjI]
    by_cases hlt:x<y
    ·have hxx:(x:Int)<(y:Int):=by omega
     have hv:=Qc1 (B:=2^32) (by decide) (Xo2 H) (Xo2 HH) (Xe3 HH) (Xo0 HH) hlt
     have hr0:r= -1:=by
      rw[<-(Xe2 HL)];unfold Qkg
      rw[if_pos (by rw[<-(Xo0 H),<-(Xo1 H)];exact hv)]
     have HV:=Lib.hid hr0
     clear hv hr0
     go_wp2_with fail
     go_quiet (fail)
     go_wp2_with fail
     go_ret
     exact ⟨by rw[HV.out];rfl,Q1i (Xo1 HH) _⟩
    ·have hxx:¬(x:Int)<(y:Int):=by omega
     by_cases hgt:y<x
     ·have hyx:(y:Int)<(x:Int):=by omega
      have hv:=Qc1 (B:=2^32) (by decide) (Xo3 H) (Xe3 HH) (Xo2 HH) (Xo0 HH).symm hgt
      have hr0:r=1:=by
       rw[<-(Xe2 HL)];unfold Qkg
       have hv':u<v:=by rw[<-(Xo0 H),<-(Xo1 H)];exact hv
       rw[if_neg (by omega),if_pos hv']
      have HV:=Lib.hid hr0
      clear hv hr0
      go_wp2_with fail
      go_quiet (fail)
      go_wp2_with fail
      go_quiet (fail)
      go_wp2_with fail
      go_ret
      exact ⟨by rw[HV.out];rfl,Q1i (Q1i (Xo1 HH) _) _⟩
     ·have hyx:¬(y:Int)<(x:Int):=by omega
      have hxe:x=y:=by omega
      go_wp2_with fail
      go_quiet (fail)
      go_wp2_with fail
      go_quiet (fail)
      go_wp2_with fail
      refine ⟨⟨j,rfl,by omega,?_,Q1i (Xo1 HH) _⟩,by simp only[intOf];omega⟩
      have h1:=(Xo0 HH)
      have e1:=(List.getElem?_eq_some_iff.1 (Xo2 HH))
      have e2:=(List.getElem?_eq_some_iff.1 (Xe3 HH))
      rw[List.drop_eq_getElem_cons e1.1,List.drop_eq_getElem_cons e2.1,e1.2,e2.2,h1,hxe]
 ·have hneI:((n:Int) != (m:Int))=true:=by rw[bne_iff_ne];omega
  by_cases hlt:n<m
  ·have hltI:(n:Int)<(m:Int):=by omega
   have hr0:r= -1:=by rw[<-(Xe2 HL)];unfold Qkg;rw[if_pos ((Xo0 HL) hlt)]
   have HV:=Lib.hid hr0
   clear hr0
   go_enter Tryz.func60,Tryz.ntmps60
   go_wp2_with fail
   go_ret
   exact ⟨by rw[HV.out];rfl,Below.refl _ _⟩
  ·have hltI:¬(n:Int)<(m:Int):=by omega
   have hr0:r=1:=by
    have:=(Xo1 HL) (by omega)
    rw[<-(Xe2 HL)];unfold Qkg;rw[if_neg (by omega),if_pos this]
   have HV:=Lib.hid hr0
   clear hr0
   go_enter Tryz.func60,Tryz.ntmps60
   go_wp2_with fail
   go_ret
   exact ⟨by rw[HV.out];rfl,Below.refl _ _⟩
theorem Qgx {B:Nat} {A K L:List Nat} {i cr x y z cr':Nat} (hL:L.length=i) (hx:A[i]?=some x) (hs:z+y+cr=x+cr'*B) (hy:K[i]?.getD 0=y) (h:val B L+val B (K.take i)=val B (A.take i)+cr*B^i):val B (L++[z])+val B (K.take (i+1))=val B (A.take (i+1))+cr'*B^(i+1):=by
 rw[Q94,hL,Q4b A i,Q4b K i,hx,hy,Option.getD_some,Nat.pow_succ]
 have h1:B^i*z+B^i*y+cr*B^i=B^i*x+cr'*(B^i*B):=by
  have:=congrArg (B^i*·) hs
  simp only[Nat.mul_add] at this
  rw[Nat.mul_comm cr,Nat.mul_left_comm cr']
  rw[<-this]
 omega
theorem Qgy {u v l cr X:Nat} (huv:u<=v) (h3:l<X) (h:l+u=v+cr*X):cr=0:=by
 refine Nat.eq_zero_of_not_pos fun hpos=>?_
 have h4:X<=cr*X:=Nat.le_mul_of_pos_left _ hpos
 omega
theorem Qbu (a:Option Addr) (n c:Nat) (v:Nat) (b:Option Addr) (m d:Nat) (u:Nat) (w:World) (h1:Q0r w a n c v) (h2:Q0r w b m d u) (hn:n<=100000) (huv:u<=v):
 Calls Tryz.prog 61 #[.slice a n c,.slice b m d] w fun e w'=>∃a' n',e=.returned (.slice a' n' n')/\Q0r w' a' n' n' (v-u)/\Below w.heap.size w w':=by
 have hvA:val (2^32) (dig (2^32) v)=v:=Q0s (by decide) v
 have hvK:val (2^32) (dig (2^32) u)=u:=Q0s (by decide) u
 have hlA:=Q1q (B:=2^32) (by decide) v
 have hlK:=Q1q (B:=2^32) (by decide) u
 have hA1:=h1.len
 have hK1:=h2.len
 have hmn:m<=n:=by
  have h3:=Q1h (B:=2^32) (by decide) huv
  omega
 have hr1:=h1.rd
 have hr2:=h2.rd
 obtain ⟨A,hA⟩:∃A,dig (2^32) v=A:=⟨_,rfl⟩
 obtain ⟨K,hK⟩:∃K,dig (2^32) u=K:=⟨_,rfl⟩
 rw[hA] at hvA hlA hA1 hr1
 rw[hK] at hvK hlK hK1 hr2
 obtain ⟨i0,hi0,hz0,hz1,hz2⟩:=info_parts Q57
 have HI:=Xh4 hi0 hz0 hz1 hz2
 have H:=Xh7 hvA hvK hlA hlK hr1 hr2 huv
 have hdg2:=fun (i:Nat) W (hb:Below w.heap.size w W)=>Q5n b m d K i W hK1 (hr2.below hb) hlK
 have HD:=Lib.hid hdg2
 clear hvA hvK hlA hlK hr1 hr2 hA hK h1 h2 hdg2 hi0 hz0 hz1 hz2 huv
 go_enter Tryz.func61,Tryz.ntmps61
 go_wp2_with fail
 go_loopw [5,6,7] (fun ov cv iv wr=>∃(i cr:Nat) (L:List Nat) (ao:Option Addr) (co:Nat),ov=.slice ao i co/\cv=.int .u64 (cr:Int)/\iv=.int .i64 (i:Int)/\cr<=1/\i<=n/\Row wr w.heap.size 152 1 ao i co (L.map (nv .u32))/\L.length=i/\Low (2^32) L/\val (2^32) L+val (2^32) (K.take i)=val (2^32) (A.take i)+cr*(2^32)^i/\Below w.heap.size w wr) (fun _ _ iv _=>n-(intOf iv).toNat)
 case atStart=>exact ⟨0,0,[],none,0,rfl,rfl,rfl,by decide,Nat.zero_le _,Row.nil_ _ _ _ _,rfl,fun x hx=>by simp at hx,by simp[val],Below.refl _ _⟩
 case round=>
  obtain ⟨i,cr,L,ao,co,rfl,rfl,rfl,hcr,hi,hrow,hLl,hLow,hval,hb⟩:=hrel
  by_cases hend:i=n
  ·have e1:K.take i=K:=List.take_of_length_le (by rw[hK1,hend];exact hmn)
   have e2:A.take i=A:=List.take_of_length_le (by rw[hA1,hend];exact Nat.le_refl _)
   rw[e1,e2,(Xo0 H),(Xo1 H)] at hval
   have hcr0:cr=0:=by
    have h3:=Q2u (B:=2^32) (by decide) L hLow
    rw[hLl] at h3
    exact Qgy (Xe6 H) h3 hval
   subst hcr0
   rw[Nat.zero_mul,Nat.add_zero] at hval
   have hT:=Q3y ao i co L wr hLl hrow.cap.1 hrow.cap.2 (Row.rdI hrow) hLow
   rw[show val (2^32) L=v-u by omega] at hT
   have HT:=Xh2 hT hb
   have l1:¬(i:Int)<(n:Int):=by omega
   clear hT hb hval hLow hrow hend e1 e2
   go_wp2_with (refine (Xo0 HT).mono ?_;rintro e w1 ⟨n',rfl,hn',hD,rfl⟩;have HD2:=Lib.hid hD;clear hD)
   go_ret
   exact ⟨ao,n',rfl,HD2.out,(Xe1 HT)⟩
  ·have hlt:i<n:=by omega
   have l1:(i:Int)<(n:Int):=by omega
   obtain ⟨x,hx⟩:∃x,A[i]?=some x:=⟨_,List.getElem?_eq_getElem (by omega)⟩
   obtain ⟨g1,o1,hae,hg1,hcx⟩:=((Xo4 H).below hb).at_ hx
   subst hae
   have hxl:x<4294967296:=(Xo2 H) x (List.mem_of_getElem? hx)
   have hyl:K[i]?.getD 0<4294967296:=Q97 (by decide) (Xo3 H) i
   have hst:=fun z cr' hs=>Qgx (B:=2^32) (z:=z) (cr':=cr') (cr:=cr) hLl hx hs rfl hval
   have hd:∀W:World,W.heap=wr.heap->Calls Tryz.prog 106 #[.slice b m d,.int .i64 (i:Int)] W fun e w'=>e=.returned (.int .u64 ((K[i]?.getD 0:Nat):Int))/\∃n,w'=W.drewN n:=fun W hW=>by
    have h1:=Q5n b m d K i W (B:=w.heap.size) hK1 (RdI.keep ((Xo5 H).below hb) (fun p _=>by unfold World.cell?;rw[hW])) (Xo3 H)
    refine h1.mono ?_
    rintro e w' ⟨rfl,rfl⟩
    exact ⟨rfl,0,rfl⟩
   generalize K[i]?.getD 0=y at*
   obtain ⟨S,hS⟩:∃S,y+cr=S:=⟨_,rfl⟩
   have hSI:(y:Int)+(cr:Int)=(S:Int):=by omega
   have hSl:S<=4294967296:=by omega
   have hba:∀o nq,Below w.heap.size w ((wr.drewN nq).alloc o):=fun o nq=>(Q1i hb nq).alloc hb.size o
   have hbz:∀o nq,w.heap.size<=((wr.drewN nq).alloc o).heap.size:=fun o nq=>(hba o nq).size
   have hrr:∀o nq,Row ((wr.drewN nq).alloc o) w.heap.size 152 1 ao i co (L.map (nv .u32)):=fun o nq=>(hrow.drewN nq).alloc o
   obtain ⟨cr',Z,hcr',hZ,hZl⟩:∃cr' Z:Nat,cr'<=1/\Z+S=x+cr'*4294967296/\Z<4294967296:=by
    by_cases hlt:x<S
    ·exact ⟨1,x+4294967296-S,Nat.le_refl _,by omega,by omega⟩
    ·exact ⟨0,x-S,by omega,by omega,by omega⟩
   have hnx:=hst Z cr' (by rw[<-hZ,<-hS];omega)
   have HH:=Xh5 hnx hrr hba hbz hLow
   clear hst hrr hba hbz hb hrow hval hnx hLow hS hx
   have hwn:IntKind.u32.wrap (Z:Int)=(Z:Int):=by
    simp only[IntKind.wrap,IntKind.signed,IntKind.bits]
    simp
    omega
   by_cases hlt:x<S
   ·have hltI:(x:Int)<(S:Int):=by omega
    obtain rfl:cr'=1:=by omega
    have hZI:(x:Int)+4294967296-(S:Int)=(Z:Int):=by omega
    go_wp2_with fail
    go_quiet (first|(refine Calls.quiet_of (hd _ ?_);rfl))
    go_wp2_with (at_builtin;refine Q0n rfl (.tmp 31) (.tmp 36) 54 rfl w _ 152 i0 _ 1 4 Tryz.underlying54 (Xo0 HI) (Xo1 HI) (Xo2 HI) (Xe3 HI) rfl (by decide) w.heap.size ((Xo2 HH) _ _) ((Xo3 HH) _ _) ao i co _ rfl ((Xo1 HH) _ _) ⟨(wr.drewN nq).heap.size,0,none⟩ 1 1 [.int .u32 (Z:Int)] rfl rfl (Q2l (wr.drewN nq) #[.int .u32 (Z:Int)] _ _) (Q7t _ _) (i+1) rfl (by omega) (by omega) ?_;intro a3 c3 w3 ho3 hg3 hb3 hat3;have HO:=Xh2 ho3 hb3;clear ho3 hg3 hb3 hat3)
    refine ⟨⟨i+1,1,L++[Z],a3,c3,rfl,rfl,by simp,Nat.le_refl _,by omega,?_,by simp[hLl],Qc3 (Xe4 HH) hZl,(Xo0 HH),(Xe1 HO)⟩,by simp only[intOf];omega⟩
    rw[List.map_append];exact (Xo0 HO)
   ·have hltI:¬(x:Int)<(S:Int):=by omega
    obtain rfl:cr'=0:=by omega
    have hZI:(x:Int)-(S:Int)=(Z:Int):=by omega
    go_wp2_with fail
    go_quiet (first|(refine Calls.quiet_of (hd _ ?_);rfl))
    go_wp2_with (at_builtin;refine Q0n rfl (.tmp 31) (.tmp 36) 54 rfl w _ 152 i0 _ 1 4 Tryz.underlying54 (Xo0 HI) (Xo1 HI) (Xo2 HI) (Xe3 HI) rfl (by decide) w.heap.size ((Xo2 HH) _ _) ((Xo3 HH) _ _) ao i co _ rfl ((Xo1 HH) _ _) ⟨(wr.drewN nq).heap.size,0,none⟩ 1 1 [.int .u32 (Z:Int)] rfl rfl (Q2l (wr.drewN nq) #[.int .u32 (Z:Int)] _ _) (Q7t _ _) (i+1) rfl (by omega) (by omega) ?_;intro a3 c3 w3 ho3 hg3 hb3 hat3;have HO:=Xh2 ho3 hb3;clear ho3 hg3 hb3 hat3)
    refine ⟨⟨i+1,0,L++[Z],a3,c3,rfl,rfl,by simp,Nat.zero_le _,by omega,?_,by simp[hLl],Qc3 (Xe4 HH) hZl,(Xo0 HH),(Xe1 HO)⟩,by simp only[intOf];omega⟩
    rw[List.map_append];exact (Xo0 HO)
def bnd (T:Nat) (d:Dyadic):Prop:=∃m:Int,d=dy m (-(T:Int))/\m.natAbs<2^(2*T)
theorem Qpy (T:Nat):bnd T 0:=⟨0,(Qg0 _).symm,by simpa using Nat.pow_pos (n:=2*T) (by decide:0<2)⟩
theorem Q4g (m:Int) (k:Nat):(m*2^k).natAbs=m.natAbs*2^k:=by
 rw[Int.natAbs_mul]
 have:((2:Int)^k)=((2^k:Nat):Int):=by simp
 rw[this,Int.natAbs_natCast]
theorem bnd.more {T S:Nat} {d:Dyadic} (h:bnd T d) (hS:T<=S):bnd S d:=by
 obtain ⟨m,rfl,hm⟩:=h
 obtain ⟨k,rfl⟩:∃k,S=T+k:=⟨S-T,by omega⟩
 refine ⟨m*2^k,?_,?_⟩
 ·have:=Qdd m (-((T+k:Nat):Int)) k
  rw[<-this]
  congr 1
  omega
 ·rw[Q4g,show 2*(T+k)=2*T+k+k by omega,Nat.pow_add,Nat.pow_add]
  have h1:1<=2^k:=Nat.pow_pos (by decide)
  calc m.natAbs*2^k<2^(2*T)*2^k:=Nat.mul_lt_mul_of_pos_right hm (by omega)
   _<=2^(2*T)*2^k*2^k:=Nat.le_mul_of_pos_right _ (by omega)
theorem bnd.add {T:Nat} {a b:Dyadic} (ha:bnd T a) (hb:bnd T b):bnd (T+1) (a+b):=by
 obtain ⟨m,rfl,hm⟩:=ha
 obtain ⟨k,rfl,hk⟩:=hb
 refine ⟨(m+k)*2^1,?_,?_⟩
 ·rw[Qhj,<-Qdd (m+k) (-((T+1:Nat):Int)) 1]
  congr 1
  omega
 ·rw[Q4g,show 2*(T+1)=2*T+2 by omega,Nat.pow_add]
  have:=Int.natAbs_add_le m k
  generalize 2^(2*T)=X at*
  omega
theorem Qpz {d:Dyadic} {T:Nat} (h:Q7o d) (hT:69632<=T):bnd T d:=by
 rcases h with rfl|⟨m,e,rfl,_,hm,h1,h2⟩
 ·exact Qpy T
 obtain ⟨k,hk⟩:∃k:Nat,e= -(T:Int)+k:=⟨(e+T).toNat,by omega⟩
 have hkT:k<=65536+T:=by omega
 refine ⟨m*2^k,by rw[hk,Qdd],?_⟩
 rw[Q4g]
 have h3:(2^64)^64=2^(64*64):=(Nat.pow_mul 2 64 64).symm
 rw[h3] at hm
 obtain ⟨s,hs⟩:∃s,64*64=s:=⟨_,rfl⟩
 rw[hs] at hm
 calc m.natAbs*2^k<2^s*2^k:=Nat.mul_lt_mul_of_pos_right hm (Nat.pow_pos (by decide))
  _=2^(s+k):=(Nat.pow_add 2 s k).symm
  _<=2^(2*T):=Nat.pow_le_pow_right (by decide) (by omega)
theorem Qnq {a b e:Int} (h:dy a e=dy b e):a=b:=by
 have h1:=congrArg Dyadic.toRat h
 rw[Q5r,Q5r] at h1
 have h2:((2:Rat)^e)≠0:=by
  intro h0
  have h4:dy 1 e≠0:=Qlv (by decide)
  refine h4 ?_
  rw[<-Dyadic.toRat_inj,Q5r,h0]
  simp
 generalize (2:Rat)^e=x at h1 h2
 have h3:(a:Rat)=(b:Rat):=by grind
 exact Rat.intCast_inj.1 h3
theorem Qnr {neg:Bool} {v T:Nat} {e:Int} (hv:v%2=1) (h:bnd T (dy (sgn neg v) e)): -(T:Int)<=e/\e<=T/\v<2^(2*T):=by
 obtain ⟨m,hd,hm⟩:=h
 have hodd:=Q3l (neg:=neg) hv
 have he: -(T:Int)<=e:=by
  refine Int.not_lt.1 fun hlt=>?_
  obtain ⟨k,hk⟩:∃k:Nat,-(T:Int)=e+((k+1:Nat):Int):=⟨(-(T:Int)-e).toNat-1,by omega⟩
  rw[hk,Qdd] at hd
  have h1:=Qnq hd
  rw[h1,Int.pow_succ,<-Int.mul_assoc] at hodd
  omega
 obtain ⟨k,hk⟩:∃k:Nat,e= -(T:Int)+k:=⟨(e+T).toNat,by omega⟩
 rw[hk,Qdd] at hd
 have h1:=Qnq hd
 have h2:=congrArg Int.natAbs h1
 rw[Q4g,Q9s] at h2
 rw[<-h2] at hm
 have hk1:1<=2^k:=Nat.pow_pos (by decide)
 have hv1:1<=v:=by omega
 refine ⟨he,?_,Nat.lt_of_le_of_lt (Nat.le_mul_of_pos_right v (by omega)) hm⟩
 have h3:2^k<2^(2*T):=Nat.lt_of_le_of_lt (Nat.le_mul_of_pos_left _ (by omega)) hm
 have h4:=(Nat.pow_lt_pow_iff_right (a:=2) (by decide)).1 h3
 omega
theorem Qao {neg:Bool} {v T k:Nat} {e:Int} (hc:Q4k neg v e) (h:bnd T (dy (sgn neg v) e)) (hk:2*T<=32*k):(dig (2^32) v).length<=k/\-(T:Int)<=e/\e<=T:=by
 by_cases h0:v=0
 ·obtain ⟨_,rfl⟩:=hc.1 h0
  subst h0
  rw[Q0w]
  exact ⟨Nat.zero_le _,by omega,by omega⟩
 ·obtain ⟨h1,h2,h3⟩:=Qnr (hc.2 h0) h
  refine ⟨Q23 (by decide) (Nat.lt_of_lt_of_le h3 ?_),h1,h2⟩
  rw[<-Nat.pow_mul]
  exact Nat.pow_le_pow_right (by decide) hk
end Go.Proofs.YtdilmfakkppgpaaGreatDoor
namespace Go.Proofs.YtdilmfakkppgpaaGreatDoor
open Go Go.RowKit
section
variable {P:Program}
def Qns (l:List Oper) (n:Nat):Bool:=(List.range n).all fun k=>(List.range (n+1)).any fun j=>decide (k<j) && (match l[j]? with|some o=>(Q3o o).contains k|none=>false)
theorem Qev {l:List Oper} {n:Nat} (h:Qns l n=true) {D:Nat->Bool} (hcl:∀j oj,l[j]?=some oj->D j=true->∀i∈Q3o oj,D i=true):∀m k,n-k=m->k<=n->D k=false->D n=false:=by
 intro m
 induction m using Nat.strongRecOn with
 |ind m ih=>
  intro k hm hk hD
  by_cases hkn:k=n
  ·subst hkn;exact hD
  ·have h1:=List.all_eq_true.1 h k (by rw[List.mem_range];omega)
   obtain ⟨j,hj,h2⟩:=List.any_eq_true.1 h1
   rw[List.mem_range] at hj
   rw[Bool.and_eq_true,decide_eq_true_eq] at h2
   obtain ⟨h3,h4⟩:=h2
   cases hoj:l[j]? with
   |none=>rw[hoj] at h4;cases h4
   |some oj=>
    rw[hoj] at h4
    have h5:k∈Q3o oj:=by simpa using h4
    have hDj:D j=false:=by
     cases hb:D j with
     |false=>rfl
     |true=>have:=hcl j oj hoj hb k h5;rw[hD] at this;cases this
    exact ih (n-j) (by omega) j rfl (by omega) hDj
def Qq0 (P:Program) (ops:Array Oper) (C:World->Prop) (V:Nat->Value->World->Prop) (a0:Act) (Fin:World->Prop):List Oper->Prop
 |[o]=>∀a w,C w->Q9p ops a0 a->(∀i∈Q3o o,V i (Q0j ops a i) w)->Q3i P (fun _ w'=>Fin w') ((execOp a.eval o).run P w)
 |_=>False
theorem Q26 {Q:Exit->Act->World->Prop} {id:Nat} {l:List Oper} {a0:Act} {w:World} (hm:P.follows .mixedOrders=true) (n:Nat) (hn:l.length=n+1) (C:World->Prop) (hC:∀w w',C w->Below w.heap.size w w'->C w') (V:Nat->Value->World->Prop) (hV:∀i v w w',V i v w->Below w.heap.size w w'->V i v w') (Fin:World->Prop)
 (hB:Q74 l a0.tmps.size=true) (hA:Qns l n=true) (hG:(l.all fun o=>o.guard.isNone)=true) (hD:(l.zipIdx.all fun p=>p.1.dst.isSome || decide (p.2=n))=true) (h0:C w.drew)
 (step:Q3d P Qfg l.toArray C V a0 (l.take n) 0) (last:Qq0 P l.toArray C V a0 Fin (l.drop n)) (fin:∀vs w,Fin w->Q .normal (Q18 vs l 0 a0) w):(Code.region id l.toArray true).wp P Q a0 w:=by
 have hguard:∀(k:Nat) (o:Oper),l[k]?=some o->∀y,Region.wanted o y=true:=fun k o ho y=>by
  have h1:=List.all_eq_true.1 hG o (List.mem_of_getElem? ho)
  unfold Region.wanted
  cases hg:o.guard with
  |none=>rfl
  |some g=>rw[hg] at h1;cases h1
 have hno:∀(D:Nat->Bool) (vs:Nat->Value) (i:Nat) (o:Oper) (v:Value) (w:World),l[i]?=some o->o.dst=none->(if D n=true then Fin w else (C w/\∀j,D j=true->V j (Q48 vs i v j) w))->(if D n=true then Fin w else (C w/\∀j,D j=true->V j (vs j) w)):=by
  intro D vs i o v w hi hd h
  have hin:i=n:=by
   have hm:(o,i)∈l.zipIdx:=by rw[List.mem_zipIdx_iff_getElem?];exact hi
   have h1:=List.all_eq_true.1 hD _ hm
   simpa[hd] using h1
  subst hin
  split at h
  ·rename_i hDn;rw[if_pos hDn];exact h
  ·rename_i hDn
   rw[if_neg hDn]
   refine ⟨h.1,fun j hj=>?_⟩
   have:=h.2 j hj
   unfold Q48 at this
   rwa[if_neg (fun e=>by subst e;exact hDn hj)] at this
 have hall:∀(k:Nat) (o:Oper),l[k]?=some o->Q7a P l.toArray (fun D vs w=>if D n=true then Fin w else (C w/\∀j,D j=true->V j (vs j) w)) a0 k o:=by
  intro k o ho a w D hI hag hk hdeps hcl
  have hkn:k<=n:=by have:=(List.getElem?_eq_some_iff.1 ho).1;omega
  have hDn:D n=false:=Qev hA (D:=D) (fun j oj hj=>hcl j oj (by simpa using hj)) _ k rfl hkn hk
  have hDn':¬D n=true:=by rw[hDn];decide
  simp only[hDn] at hI
  obtain ⟨hCw,hVw⟩:=hI
  have hdv:∀i∈Q3o o,V i (Q0j l.toArray a i) w:=fun i hi=>hVw i (hdeps i hi)
  refine ⟨hguard k o ho _,?_⟩
  by_cases hkl:k=n
  ·subst hkl
   have hdrop:l.drop k=[o]:=by
    rw[List.drop_eq_getElem_cons (by omega),List.drop_of_length_le (by omega)]
    rw[(List.getElem?_eq_some_iff.1 ho).2]
   rw[hdrop] at last
   have h1:=last a w hCw hag hdv
   have hK:∀u w',Fin w'->(if Q47 D k k=true then Fin w' else (C w'/\∀j,Q47 D k j=true->V j (Q48 (Q0j l.toArray a) k u j) w')):=fun u w' h=>by rw[Qa7,if_pos rfl];exact h
   revert h1
   generalize (execOp a.eval o).run P w=res
   intro h1
   cases res with
   |ok x w'=>
    cases x with
    |value u=>exact hK u w' h1
    |enter f args=>
     refine Calls.mono h1 ?_
     rintro e w'' ⟨v,rfl,hf⟩
     exact ⟨v,rfl,hK v w'' hf⟩
    |skip=>exact hK undef w' h1
    |_=>exact h1.elim
   |halt x w'=>exact h1.elim
  ·have htake:(l.take n)[k]?=some o:=by rw[List.getElem?_take,if_pos (by omega)];exact ho
   have h1:=Q3d.at_ _ _ _ _ step htake
   rw[Nat.zero_add] at h1
   have h1:=h1 a w hCw hag hdv
   rw[if_pos (hguard k o ho _)] at h1
   have hK:∀u w',Below w.heap.size w w'->V k u w'->(if Q47 D k n=true then Fin w' else (C w'/\∀j,Q47 D k j=true->V j (Q48 (Q0j l.toArray a) k u j) w')):=fun u w' hb hu=>by
    have e:Q47 D k n=false:=by unfold Q47;rw[if_neg (fun e=>hkl e.symm)];exact hDn
    rw[e,if_neg (by decide)]
    refine ⟨hC _ _ hCw hb,fun j hj=>?_⟩
    unfold Q48
    unfold Q47 at hj
    by_cases hjk:j=k
    ·subst hjk;rw[if_pos rfl];exact hu
    ·rw[if_neg hjk]
     rw[if_neg hjk] at hj
     exact hV _ _ _ _ (hVw j hj) hb
   revert h1
   generalize (execOp a.eval o).run P w=res
   intro h1
   cases res with
   |ok x w'=>
    cases x with
    |value u=>exact hK u w' h1.1 h1.2
    |enter f args=>
     refine Calls.mono h1 ?_
     rintro e w'' ⟨v,rfl,hb,hv⟩
     exact ⟨v,rfl,hK v w'' hb hv⟩
    |skip=>exact hK undef w' h1.1 h1.2
    |_=>exact h1.elim
   |halt x w'=>exact h1.elim
 have hallX:∀(r:List Oper) (k:Nat),(∀(i:Nat) o,r[i]?=some o->l[k+i]?=some o)->Q3t P l.toArray (fun D vs w=>if D n=true then Fin w else (C w/\∀j,D j=true->V j (vs j) w)) a0 r k:=by
  intro r
  induction r with
  |nil=>intro k _;trivial
  |cons o r ih=>
   intro k h
   refine ⟨hall k o (by simpa using h 0 o rfl),ih (k+1) fun i o' ho'=>?_⟩
   have:=h (i+1) o' (by simpa using ho')
   rwa[show k+(i+1)=k+1+i by omega] at this
 refine Q5w hm (fun D vs w=>if D n=true then Fin w else (C w/\∀j,D j=true->V j (vs j) w)) (fun i o hi hd D vs v w h=>hno D vs i o v w hi hd h) hB (fun vs=>?_) (hallX l 0 fun i o h=>by rw[Nat.zero_add];exact h) (fun D vs w hall h=>?_)
 ·exact ⟨h0,fun j hj=>by cases hj⟩
 ·have hDn:=hall n (by omega)
  simp only[hDn,if_true] at h
  exact fin vs w h
end
end Go.Proofs.YtdilmfakkppgpaaGreatDoor
namespace Go.Proofs.YtdilmfakkppgpaaGreatDoor
open Go.RowKit WordsM
def Q92 (w:World) (u:Value) (D:Dyadic):Prop:=∃n a l c e v,u=.agg #[.bool n,.slice a l c,.int .i64 e]/\Q0r w a l c v/\Q4k n v e/\dy (sgn n v) e=D
theorem Q92.step {w w':World} {u:Value} {D:Dyadic} (h:Q92 w u D) (hb:Below w.heap.size w w'):Q92 w' u D:=by
 obtain ⟨n,a,l,c,e,v,rfl,h1,h2,h3⟩:=h
 exact ⟨n,a,l,c,e,v,rfl,h1.step hb,h2,h3⟩
def Qnt (w:World) (D:Dyadic) (r:Ending) (w':World):Prop:=∃u,r=.returned u/\Q92 w' u D/\Below w.heap.size w w'
theorem Q0r.box3 {w:World} {a:Option Addr} {n c v r:Nat} {v0 v1 v2:Value} (h:Q0r w a n c v) (hN:Q06 w r v0 v1 v2) (h0:∀x:Nat,v0≠nv .u32 x) (h1:∀x:Nat,v1≠nv .u32 x) (h2:∀x:Nat,v2≠nv .u32 x) (u0 u1 u2:Value):
 Q0r (((w.setCell ⟨r,0,none⟩ u0).setCell ⟨r,1,none⟩ u1).setCell ⟨r,2,none⟩ u2) a n c v:=
 ⟨h.len,h.cap,h.most,(h.rd.store3 hN h0 h1 h2 u0 u1 u2).more (Q1e _ _ _ _ _)⟩
theorem Q0r.box {w:World} {a:Option Addr} {n c v r:Nat} {b0:Bool} {a0:Option Addr} {n0 c0:Nat} {e0:Int} (h:Q0r w a n c v) (hN:Q06 w r (.bool b0) (.slice a0 n0 c0) (.int .i64 e0)) (u0 u1 u2:Value):
 Q0r (((w.setCell ⟨r,0,none⟩ u0).setCell ⟨r,1,none⟩ u1).setCell ⟨r,2,none⟩ u2) a n c v:=
 h.box3 hN (fun _=>by simp[nv]) (fun _=>by simp[nv]) (fun _=>by simp[nv]) u0 u1 u2
theorem Q38 {P:Program} {Fin:World->Prop} {w':World} {res:Result Next} (hr:res=.ok .skip w') (h:Fin w'):Q3i P (fun _ w=>Fin w) res:=by rw[hr];exact h
def Q5y:List (Nat × (Value->World->Prop))->Nat->Option (Value->World->Prop)
 |[],_=>none
 |(i,φ)::r,x=>if x=i then some φ else Q5y r x
def Q2f (φ:Value->World->Prop):Prop:=∀v w w',φ v w->Below w.heap.size w w'->φ v w'
theorem Q13:∀{l:List (Nat × (Value->World->Prop))},(∀p∈l,Q2f p.2)->∀i φ,Q5y l i=some φ->∀v w w',φ v w->Below w.heap.size w w'->φ v w'
 |[],_,i,φ,h=>by cases h
 |(j,ψ)::r,hs,i,φ,h=>by
  unfold Q5y at h
  split at h
  ·injection h with h
   subst h
   exact hs (j,ψ) (by simp)
  ·exact Q13 (fun p hp=>hs p (by simp[hp])) i φ h
def SlD (k v:Nat) (u:Value) (w:World):Prop:=∃a n c,u=.slice a n c/\n<=k/\Q0r w a n c v
theorem SlD.stable (k v:Nat):Q2f (SlD k v):=fun u w w' h hb=>by
 obtain ⟨a,n,c,rfl,h1,h2⟩:=h
 exact ⟨a,n,c,rfl,h1,h2.step hb⟩
theorem Q39 (D:Dyadic):Q2f (fun u w=>Q92 w u D):=fun _ _ _ h hb=>h.step hb
theorem Qt3 {i:Nat} {φ:Value->World->Prop} (h:Q2f φ):∀p∈[(i,φ)],Q2f p.2:=fun p hp=>by rw[List.mem_singleton] at hp;subst hp;exact h
theorem Qki {i j:Nat} {φ ψ:Value->World->Prop} (h:Q2f φ) (h':Q2f ψ):∀p∈[(i,φ),(j,ψ)],Q2f p.2:=fun p hp=>by
 rcases List.mem_cons.1 hp with rfl|hp
 ·exact h
 ·exact Qt3 h' p hp
theorem Qt4 {i j k:Nat} {φ ψ χ:Value->World->Prop} (h:Q2f φ) (h':Q2f ψ) (h'':Q2f χ):∀p∈[(i,φ),(j,ψ),(k,χ)],Q2f p.2:=fun p hp=>by
 rcases List.mem_cons.1 hp with rfl|hp
 ·exact h
 ·exact Qki h' h'' p hp
theorem Qt5 {i j k l:Nat} {φ ψ χ ω:Value->World->Prop} (h:Q2f φ) (h':Q2f ψ) (h'':Q2f χ) (h3:Q2f ω):∀p∈[(i,φ),(j,ψ),(k,χ),(l,ω)],Q2f p.2:=fun p hp=>by
 rcases List.mem_cons.1 hp with rfl|hp
 ·exact h
 ·exact Qt4 h' h'' h3 p hp
def Qs5 (w:World) (r:Nat) (D:Dyadic) (W:World):Prop:=∃n a l c e v,Q06 W r (.bool n) (.slice a l c) (.int .i64 e)/\Q0r W a l c v/\Q4k n v e/\dy (sgn n v) e=D/\Below w.heap.size w W
theorem Q53 {w W:World} {r:Nat} {D:Dyadic} {b0:Bool} {a0:Option Addr} {n0 c0:Nat} {e0:Int} (hr:w.heap.size<=r) (hb:Below w.heap.size w W) (hN:Q06 W r (.bool b0) (.slice a0 n0 c0) (.int .i64 e0)) {n:Bool} {a:Option Addr} {l c v:Nat} {e:Int} (hd:Q0r W a l c v) (hc:Q4k n v e) (hD:dy (sgn n v) e=D):
 Qs5 w r D (((W.setCell ⟨r,0,none⟩ (.bool n)).setCell ⟨r,1,none⟩ (.slice a l c)).setCell ⟨r,2,none⟩ (.int .i64 e)):=
 ⟨n,a,l,c,e,v,hN.store _ _ _,hd.box hN _ _ _,hc,hD,Q06.below hb hr _ _ _⟩
theorem Q0r.none_of {w:World} {a:Option Addr} {n c v:Nat} (h:Q0r w a n c v) (h0:v=0):n=0:=by rw[<-h.len,h0,Q0w];rfl
theorem Q0r.zero_of {w:World} {a:Option Addr} {n c v:Nat} (h:Q0r w a n c v) (h0:n=0):v=0:=(Q3x (B:=2^32) (by decide)).1 (List.length_eq_zero_iff.1 (by rw[h.len,h0]))
theorem Qq1 {w:World} {a:Option Addr} {n c v:Nat} (h:Q0r w a n c v):n<=9223372036854775807:=Nat.le_trans h.cap h.most
theorem Qgz {neg:Bool} {e:Int} {L:List Nat} (h:Q0g neg e L) (hl:Low (2^64) L):Q4k neg (val (2^64) L) e:=by
 rcases Q1k h hl with ⟨rfl,hn,he⟩|⟨_,ho,_⟩
 ·exact ⟨fun _=>⟨hn,he⟩,fun h=>absurd rfl h⟩
 ·exact ⟨fun e=>(by rw[e] at ho;cases ho),fun _=>ho⟩
theorem Qh0 {u v k:Nat} (h1:(dig (2^32) v).length<=k) (h2:(dig (2^32) u).length+1<=k+1):(dig (2^32) (v+u)).length<=k+1:=by
 have g1:=Q2u (B:=2^32) (by decide) (dig (2^32) v) (Q1q (by decide) v)
 have g2:=Q2u (B:=2^32) (by decide) (dig (2^32) u) (Q1q (by decide) u)
 rw[Q0s (by decide)] at g1 g2
 have g3:=Nat.lt_of_lt_of_le g1 (Nat.pow_le_pow_right (by decide:0<2^32) h1)
 have g4:=Nat.lt_of_lt_of_le g2 (Nat.pow_le_pow_right (by decide:0<2^32) (by omega:(dig (2^32) u).length<=k))
 refine Q23 (by decide) ?_
 rw[Nat.pow_succ]
 generalize (2^32)^k=K at*
 omega
theorem Qap (neg:Bool) {v:Nat} (e:Int) (h:v=0):dy (sgn neg v) e=0:=by subst h;rw[Q3r];exact Qg0 e
theorem Qnu (w:World) (x0 x1 x2 r0 r1 r2:Value) (T1 T3:TypeId):
 ((w.alloc (.cells #[x0,x1,x2] T1)).alloc (.cells #[r0,r1,r2] T3)).heap.size=w.heap.size+2/\Q06 ((w.alloc (.cells #[x0,x1,x2] T1)).alloc (.cells #[r0,r1,r2] T3)) w.heap.size x0 x1 x2/\Q06 ((w.alloc (.cells #[x0,x1,x2] T1)).alloc (.cells #[r0,r1,r2] T3)) (w.heap.size+1) r0 r1 r2/\Below w.heap.size w ((w.alloc (.cells #[x0,x1,x2] T1)).alloc (.cells #[r0,r1,r2] T3)):=by
 have hs1:(w.alloc (.cells #[x0,x1,x2] T1)).heap.size=w.heap.size+1:=World.size_alloc _ _
 have hb1:Below w.heap.size w (w.alloc (.cells #[x0,x1,x2] T1)):=(Below.refl _ _).alloc (Nat.le_refl _) _
 have hb2:Below (w.alloc (.cells #[x0,x1,x2] T1)).heap.size (w.alloc (.cells #[x0,x1,x2] T1)) ((w.alloc (.cells #[x0,x1,x2] T1)).alloc (.cells #[r0,r1,r2] T3)):=(Below.refl _ _).alloc (Nat.le_refl _) _
 refine ⟨by rw[World.size_alloc,hs1],(Q06.new w _ _ _ _).step hb2 (Q0h _ _),?_,Below.next0 hb1 hb2⟩
 have h:=Q06.new (w.alloc (.cells #[x0,x1,x2] T1)) r0 r1 r2 T3
 rwa[hs1] at h
theorem Qt6 (w:World) (x0 x1 x2 y0 y1 y2 r0 r1 r2:Value) (T1 T2 T3:TypeId):
 (((w.alloc (.cells #[x0,x1,x2] T1)).alloc (.cells #[y0,y1,y2] T2)).alloc (.cells #[r0,r1,r2] T3)).heap.size=w.heap.size+3/\Q06 (((w.alloc (.cells #[x0,x1,x2] T1)).alloc (.cells #[y0,y1,y2] T2)).alloc (.cells #[r0,r1,r2] T3)) w.heap.size x0 x1 x2/\Q06 (((w.alloc (.cells #[x0,x1,x2] T1)).alloc (.cells #[y0,y1,y2] T2)).alloc (.cells #[r0,r1,r2] T3)) (w.heap.size+1) y0 y1 y2/\
   Q06 (((w.alloc (.cells #[x0,x1,x2] T1)).alloc (.cells #[y0,y1,y2] T2)).alloc (.cells #[r0,r1,r2] T3)) (w.heap.size+2) r0 r1 r2/\Below w.heap.size w (((w.alloc (.cells #[x0,x1,x2] T1)).alloc (.cells #[y0,y1,y2] T2)).alloc (.cells #[r0,r1,r2] T3)):=by
 obtain ⟨h1,h2,h3,h4⟩:=Qnu w x0 x1 x2 y0 y1 y2 T1 T2
 generalize (w.alloc (.cells #[x0,x1,x2] T1)).alloc (.cells #[y0,y1,y2] T2)=W at*
 have hb:Below W.heap.size W (W.alloc (.cells #[r0,r1,r2] T3)):=(Below.refl _ _).alloc (Nat.le_refl _) _
 have h:=Q06.new W r0 r1 r2 T3
 rw[h1] at h
 exact ⟨by rw[World.size_alloc,h1],h2.step hb (by omega),h3.step hb (by omega),h,Below.next0 h4 hb⟩
theorem Qkj (n:Bool) (e:Int) (a:Option Addr) (l c:Nat) (L:List Nat) (w:World) (h:WordsIn w a l c L) (hi:Q0g n e L):
 Calls Tryz.prog 72 #[.agg #[.bool n,.int .i64 e,.slice a l c]] w fun r w'=>r=.returned (.agg #[.bool false,.int .i64 e,.slice a l c])/\Below w.heap.size w w':=by
 obtain ⟨hs1,hX,hR,hB⟩:=Qnu w (.bool n) (.int .i64 e) (.slice a l c) (.bool false) (.int .i64 0) (.slice none 0 0) 41 41
 have hl0:l=0↔L=[]:=by rw[<-h.len];exact List.length_eq_zero_iff
 have hln:=h.len
 generalize hW:(w.alloc (.cells #[.bool n,.int .i64 e,.slice a l c] 41)).alloc (.cells #[.bool false,.int .i64 0,.slice none 0 0] 41)=W at hs1 hX hR hB
 have hex: -65536<=e/\e<=65536:=by rcases Q1k hi h.low with ⟨_,_,h0⟩|⟨_,_,_,_,h1,h2⟩ <;> omega
 have hrt:=Q5p n e a l c L W (h.step hB) (by omega) (by omega) (by have:=h.cap;have:=h.most;omega)
 rw[decide_eq_true hi] at hrt
 have x0:=hX.c0
 have x1:=hX.c1
 have x2:=hX.c2
 have HR:=Xh6 hrt hX hR hB hs1 hl0
 clear hrt hX hR hB hs1 hl0 hex h hln
 go_enter Tryz.func72,Tryz.ntmps72
 go_upto_region 3 with (go_at_call 118;refine (Xo0 HR).mono ?_;rintro r w1 ⟨rfl,hb1⟩;have H1:=Lib.hid hb1;clear hb1)
 have hX1:=(Xo1 HR).step H1.out (by have:=(Xo4 HR);omega)
 have hR1:=(Xo2 HR).step H1.out (by have:=(Xo4 HR);omega)
 have x0:=hX1.c0
 have x1:=hX1.c1
 have x2:=hX1.c2
 have f0:=hR1.f0
 have f1:=hR1.f1
 have f2:=hR1.f2
 have c0:=hR1.c0
 have c1:=hR1.c1
 have c2:=hR1.c2
 have HQ:=Xh2 hX1 hR1
 clear hX1 hR1
 have d1:=(Xe1 HQ).d1 (.bool false)
 have d2:=(Xe1 HQ).d2 (.bool false) (.int .i64 e)
 go_wp2_with fail
 have hS:=(Xe1 HQ).store (.bool false) (.int .i64 e) (.slice a l c)
 have k0:=hS.c0
 have k1:=hS.c1
 have k2:=hS.c2
 have hbz:=Q06.below (Below.next0 (Xo3 HR) H1.out) (show w.heap.size<=w.heap.size+1 by omega) (.bool false) (.int .i64 e) (.slice a l c)
 exact ⟨rfl,.agg #[.bool false,.int .i64 e,.slice a l c],by simp[results,go_sem,k0,k1,k2],rfl,hbz⟩
end Go.Proofs.YtdilmfakkppgpaaGreatDoor
namespace Go.Proofs.YtdilmfakkppgpaaGreatDoor
open Go.RowKit WordsM DecM
section
variable {w w':World} {R:Nat} {s:ByteArray} {p n d bad:Int} {a:Option Addr} {m c:Nat}
end
section
variable {w w':World} {R B:Nat} {s:ByteArray} {p n d bad:Int} {a:Option Addr} {m c:Nat} {xs:List Value}
end
theorem Qt7 {Φ P:World->Prop} (W:World) (hW:Φ W) (h:∀U,Φ U->P U):P W:=h W hW
end Go.Proofs.YtdilmfakkppgpaaGreatDoor
