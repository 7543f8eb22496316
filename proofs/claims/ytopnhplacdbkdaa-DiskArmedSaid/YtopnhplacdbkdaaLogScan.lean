/- The walk of the log statements' own scans. Condition: the slice reads as bytes, no longer than its capacity, at most a million. -/
import Derived.Test.YtopnhplacdbkdaaLogBack
import Derived.Test.YtopnhplacdbkdaaRefRecs
namespace Go.Proofs.Ytopnhplacdbkdaa
open Go.RowKit Go.Shelf
attribute [local go_sem] Oper.semAt_some

/-- a variable in a box of its own -/
def Box (U : World) (b : Nat) (v : Value) : Prop := U.cell? ⟨b, 0, none⟩ = some v ∧ U.frozen? ⟨b, 0, none⟩ = false
section
variable {U V : World} {b : Nat} {v : Value}
theorem Box.turned (h : Box U b v) {row : Option Nat} (hg : U.grownBy V row) (hr : ∀ r, row = some r → ∃ o : Obj, U.heap[r]? = some o ∧ o.isCells = false) : Box V b v := ⟨cell_kept h.1 hg hr, (frozen_kept h.1 hg hr).trans h.2⟩
theorem Box.call (h : Box U b v) (hb : Below U.heap.size U V) : Box V b v := by
  have hlt := block_lt_of_cell h.1
  exact ⟨(hb.cell (p := ⟨b, 0, none⟩) hlt).trans h.1, (hb.frozen (p := ⟨b, 0, none⟩) hlt).trans h.2⟩
theorem Box.new (U : World) (v : Value) (t : TypeId) : Box (U.alloc (.cells #[v] t)) U.heap.size v := ⟨by rw [cell_of_row _ _ _ _ _ _ (heap_alloc_new _ _)]; rfl, frozen_of_row _ _ _ _ _ (heap_alloc_new _ _)⟩
theorem Box.alloc (h : Box U b v) (o : Obj) : Box (U.alloc o) b v := h.call ((Below.refl _ _).alloc (Nat.le_refl _) _)
theorem Box.drewN (h : Box U b v) (k : Nat) : Box (U.drewN k) b v := h
theorem Box.set (h : Box U b v) (x : Value) : Box (U.setCell ⟨b, 0, none⟩ x) b x := ⟨World.cell?_setCell_same' _ _ _ (by rw [h.1]; rfl), by rw [World.frozen?_setCell]; exact h.2⟩
theorem Box.other (h : Box U b v) {p : Addr} (hp : p.block ≠ b) (x : Value) : Box (U.setCell p x) b v := ⟨(World.cell?_setCell_other _ _ _ _ (by intro e; rw [e] at hp; exact hp rfl)).trans h.1, by rw [World.frozen?_setCell]; exact h.2⟩
end
/-- a slice that reads as values, one cell each -/
def RdV (w : World) (B : Nat) (a : Option Addr) (xs : List Value) : Prop :=
  xs = [] ∨ ∃ b o, a = some ⟨b, o, none⟩ ∧ b < B ∧ ∀ (j : Nat) x, xs[j]? = some x → w.cell? ⟨b, o + j, none⟩ = some x
section
variable {w w' : World} {B B' : Nat} {a : Option Addr} {xs : List Value}
theorem RdV.at_ {k : Nat} {x : Value} (h : RdV w B a xs) (hk : xs[k]? = some x) : ∃ b o, a = some ⟨b, o, none⟩ ∧ b < B ∧ w.cell? ⟨b, o + k, none⟩ = some x := by
  rcases h with rfl | ⟨b, o, rfl, hb, hc⟩
  · simp at hk
  · exact ⟨b, o, rfl, hb, hc k _ hk⟩
theorem RdV.keep (h : RdV w B a xs) (hk : ∀ p : Addr, p.block < B → w'.cell? p = w.cell? p) : RdV w' B a xs := by
  rcases h with rfl | ⟨b, o, rfl, hb, hc⟩
  · exact .inl rfl
  · exact .inr ⟨b, o, rfl, hb, fun j x hx => (hk _ hb).trans (hc j x hx)⟩
theorem RdV.more (h : RdV w B a xs) (hB : B ≤ B') : RdV w B' a xs := by
  rcases h with rfl | ⟨b, o, rfl, hb, hc⟩
  · exact .inl rfl
  · exact .inr ⟨b, o, rfl, by omega, hc⟩
theorem RdV.below (h : RdV w B a xs) (hb : Below B w w') : RdV w' B a xs := h.keep fun _ hp => hb.cell hp
theorem RdV.turned (h : RdV w B a xs) {row : Option Nat} (hg : w.grownBy w' row) (hr : ∀ r, row = some r → ∃ o : Obj, w.heap[r]? = some o ∧ o.isCells = false) : RdV w' B a xs := by
  rcases h with rfl | ⟨b, o, rfl, hb, hc⟩
  · exact .inl rfl
  · exact .inr ⟨b, o, rfl, hb, fun j x hx => cell_kept (hc j x hx) hg hr⟩
end
theorem Row.rdv {w : World} {B : Nat} {e : TypeId} {k : Nat} {a : Option Addr} {n c : Nat} {xs : List Value} (h : Row w B e k a n c xs) : RdV w w.heap.size a xs := by
  rcases h.form with ⟨_, _, _, rfl⟩ | ⟨g, cur, rfl, hB, hg, hh, hn, hc, hs, ht⟩
  · exact .inl rfl
  · refine .inr ⟨g, 0, rfl, hg, fun j x hx => ?_⟩
    obtain ⟨g', e1, _, _, h4⟩ := h.at_ hx
    injection e1 with e1; injection e1 with e1; subst e1
    rw [Nat.zero_add]; exact h4
def Rec.part (r : Rec) : Part := ⟨r.a, r.x.length, r.c, r.x⟩
theorem RecsAt.rdp {w : World} {B : Nat} {ao : Option Addr} {co : Nat} {ap : Option Addr} {cp : Nat} {ys : List Rec} (h : RecsAt w B ao co ap cp ys) : RdP w w.heap.size ao (ys.map Rec.part) := by
  rcases h.out.rdv with h0 | ⟨b, o, rfl, hb, hc⟩
  · exact .inl (by simpa using h0)
  · refine .inr ⟨b, o, rfl, hb, fun j p hp => ?_⟩
    rw [List.getElem?_map] at hp
    cases hy : ys[j]? with
    | none => rw [hy] at hp; cases hp
    | some y =>
      rw [hy] at hp
      simp only [Option.map_some, Option.some.injEq] at hp
      subst hp
      exact ⟨hc j _ (by rw [List.getElem?_map, hy]; rfl), rfl, (h.each y (List.mem_of_getElem? hy)).rd⟩

/-- what a round gets -/
theorem recs_round {bs : List UInt8} {ys pre : List Rec} (hy : ys.map Rec.pair = LogM.scan bs) {x : Rec} {W : World} (h : RecOk bs pre x W) :
    ∃ y, ys[pre.length]? = some y ∧ x.at_ = y.at_ ∧ x.x = y.x := by
  obtain ⟨r, hr⟩ := h.1
  rw [← hy] at hr
  have hk : pre.length < ys.length := by
    have := congrArg List.length hr
    simp at this
    omega
  have hg : (ys.map Rec.pair)[pre.length]? = some x.pair := by
    rw [← hr, List.append_assoc, List.getElem?_append_right (by simp)]
    simp
  rw [List.getElem?_map, List.getElem?_eq_getElem hk] at hg
  simp only [Option.map_some, Option.some.injEq] at hg
  unfold Rec.pair at hg
  injection hg with h1 h2
  exact ⟨ys[pre.length], List.getElem?_eq_getElem hk, h1.symm, h2.symm⟩

theorem one_set (U : World) (j : Nat) (p : Addr) (u : Value) (hp : (U.cell? p).isSome = true) (W : World) (hW : W = (U.drewN j).setCell p u) :
    KeepsOthers U W ∧ W.cell? p = some u ∧ (∀ x, x ≠ p → W.cell? x = U.cell? x) ∧ (∀ x, W.frozen? x = U.frozen? x) ∧ (∀ B1 B2, B2 ≤ p.block ∨ p.block < B1 → Stays B1 B2 U W) ∧ (∀ B a, Below B a U → B ≤ p.block → Below B a W) := by
  subst hW
  have h0 : KeepsOthers U (U.drewN j) := ⟨Nat.le_refl _, fun _ _ h _ => h⟩
  have hp' : ((U.drewN j).cell? p).isSome = true := hp
  refine ⟨h0.trans (KeepsOthers.setCell _ _ _), World.cell?_setCell_same' _ _ _ hp', ?_, ?_, ?_, ?_⟩
  · intro x h1
    rw [World.cell?_setCell_other _ _ _ _ (Ne.symm h1)]; rfl
  · intro x; rw [World.frozen?_setCell]; rfl
  · intro B1 B2 h1
    have hs : Stays B1 B2 U (U.drewN j) := ⟨Nat.le_refl _, fun _ _ _ => rfl⟩
    exact hs.setCell h1.symm _
  · intro B a hb h1
    exact (below_drewN hb j).setCell h1 _

theorem pairs_few (f at_ : Nat) (b : List UInt8) : 12 * (LogM.pairs f at_ b).length ≤ b.length := by
  induction f generalizing at_ b with
  | zero => simp [LogM.pairs]
  | succ f ih =>
    simp only [LogM.pairs]
    split
    · next h =>
      have := LogM.next_len b h
      have hi := ih (at_ + (LogM.next b).2.1) (b.drop (LogM.next b).2.1)
      rw [List.length_drop] at hi
      rw [List.length_cons]
      omega
    · simp
theorem scan_few {bs : List UInt8} {ys : List Rec} (hy : ys.map Rec.pair = LogM.scan bs) {n : Nat} (hn : bs.length ≤ n) : ys.length ≤ n := by
  have h1 := congrArg List.length hy
  rw [List.length_map] at h1
  have h2 := pairs_few (bs.length + 1) 0 bs
  unfold LogM.scan at h1
  omega

set_option maxRecDepth 100000 in
set_option maxHeartbeats 4000000 in
theorem scans_any (a : Option Addr) (n c : Nat) (bs : List UInt8) (w : World) (hn : bs.length = n) (hm : n ≤ 1000000) (hc : n ≤ c) (hcm : c ≤ 9223372036854775807) (h : Rd w w.heap.size a bs) :
    Calls Try.prog 30 #[.slice a n c] w fun e w' => e = .returned (.bool true) ∧ Below w.heap.size w w' := by
  refine (callsIn_wide (n := 6)).1 ?_
  refine callsIn_of_wp_marks Try.func30 rfl trivial ?_ rfl
  simp only [Try.ntmps30, List.size_toArray, List.length_cons, List.length_nil, Nat.reduceAdd, Nat.reduceSub, Array.replicate_succ, Array.replicate_zero, List.push_toArray, List.append_toArray, List.nil_append, List.cons_append]
  have HN := Lib.hid hn
  clear hn
  have hB0 : Below w.heap.size w (w.alloc (.cells #[.bool false] 4)) := (Below.refl _ _).alloc (Nat.le_refl _) _
  have hr0 := h.step hB0
  have hx0 := Box.new w (.bool false) 4
  clear h
  gi_wp2_with fail
  refine ⟨trivial, ?_⟩
  refine (callsIn_wide.2 (lognext_any a n c bs _ HN.out (by omega) hc hcm hr0)).mono ?_
  rintro e w1 ⟨a1, c1, rfl, ho1, hb1⟩
  have hB1 := Below.next0 hB0 hb1
  have hr1 := hr0.step hb1
  have hx1 := hx0.call hb1
  clear hB0 hr0 hx0 hb1
  gi_wp2_with fail
  refine ⟨trivial, ?_⟩
  refine (callsIn_wide.2 (refnext_any a n c bs _ HN.out (by omega) hc hcm hr1)).mono ?_
  rintro e w2 ⟨a2, c2, rfl, ho2, hb2⟩
  have hB2 := Below.next0 hB1 hb2
  have hr2 := hr1.step hb2
  have hx2 := hx1.call hb2
  have hs1 := ho1.rd.step hb2
  have hs2 := ho2.rd
  clear hB1 hr1 hx1 hb2 ho1 ho2
  gi_wp2_with fail
  refine ⟨trivial, ?_⟩
  refine (callsIn_wide.2 (refrecs_any a n c bs _ HN.out (by omega) hc hcm hr2)).mono ?_
  rintro e w3 ⟨ys, ao, co, ap, cp, hys, rfl, hra, hb3⟩
  have HYS := Lib.hid hys
  have hylen : ys.length ≤ 1000000 := scan_few hys (by rw [HN.out]; exact hm)
  have hB3 := Below.next0 hB2 hb3
  have hr3 := hr2.step hb3
  have hx3 := hx2.call hb3
  have hs13 := hs1.step hb3
  have hs23 := hs2.step hb3
  clear hB2 hr2 hx2 hb3 hs1 hs2 hys
  generalize LogM.next bs = r at *
  obtain ⟨X, N, E⟩ := r
  have hb4 : Below w3.heap.size w3 ((w3.alloc (.cells #[.slice ao ys.length co] 38)).alloc (.cells #[.slice ap ys.length cp] 92)) := ((Below.refl _ _).alloc (Nat.le_refl _) _).alloc (by simp) _
  have hxl := (Box.new w3 (.slice ao ys.length co) 38).alloc (.cells #[.slice ap ys.length cp] 92)
  have hxp := Box.new (w3.alloc (.cells #[.slice ao ys.length co] 38)) (.slice ap ys.length cp) 92
  rw [World.size_alloc] at hxp
  have hsz4 : ((w3.alloc (.cells #[.slice ao ys.length co] 38)).alloc (.cells #[.slice ap ys.length cp] 92)).heap.size = w3.heap.size + 2 := by simp
  have hr4 := hr3.step hb4
  have hx4 := hx3.call hb4
  have hra4 := hra.call hb4
  have st1 := run_string_b _ _ a1 X.length c1 X (hs13.step hb4) rfl
  have st2 := run_string_b _ _ a2 X.length c2 X (hs23.step hb4) rfl
  have hB4 := Below.next0 hB3 hb4
  clear hB3 hb4 hr3 hx3 hra hs13 hs23
  have h2r := hr4
  gi_wp2_with fail
  refine ⟨trivial, ?_⟩
  generalize ((w3.alloc (.cells #[.slice ao ys.length co] 38)).alloc (.cells #[.slice ap ys.length cp] 92)) = w4 at *
  refine (callsIn_wide.2 (whole_any a n c bs w4 HN.out (by omega) hr4)).mono ?_
  rintro e w5 ⟨rfl, hb5⟩
  have hs5 : w3.heap.size + 2 ≤ w5.heap.size := by have := hb5.size; omega
  have hB5 := Below.next0 hB4 hb5
  have hr5 := hr4.step hb5
  have hx5 := hx4.call hb5
  have hxl5 := hxl.call hb5
  have hxp5 := hxp.call hb5
  have hra5 := hra4.call hb5
  clear hB4 hr4 hx4 hxl hxp hra4 st1 st2 hb5 hsz4 h2r
  have hb6 : Below w5.heap.size w5 (w5.alloc (.cells #[.int .i64 0] 3)) := (Below.refl _ _).alloc (Nat.le_refl _) _
  have hxk := Box.new w5 (.int .i64 0) 3
  have hr6 := hr5.step hb6
  gi_wp2_with fail
  refine ⟨trivial, ?_⟩
  refine (callsIn_wide.2 (all_any a n c bs _ HN.out (by omega) hr6)).mono ?_
  rintro e w7 ⟨a7, c7, rfl, hbx, ho7, hb7, hsz7⟩
  have hb57 := Below.next0 hb6 hb7
  have hB7 := Below.next0 hB5 hb57
  have hx7 := hx5.call hb57
  have hxl7 := hxl5.call hb57
  have hxp7 := hxp5.call hb57
  have hP7 : RdP w7 w5.heap.size ao (ys.map Rec.part) := hra5.rdp.below hb57
  have hV7 : RdV w7 w5.heap.size ap (ys.map Rec.pl) := hra5.places.rdv.below hb57
  have hxk7 := hxk.call hb7
  have hs7 := hb57.size
  have hs0 : w.heap.size < w5.heap.size := block_lt_of_cell hx5.1
  simp only [World.size_alloc] at hbx ho7 hsz7 ⊢
  clear hr6 hr5 hx5 hxl5 hxp5 hxk hra5 hb6 hb7 hb57
  gi_wp2_with fail
  have hyl : ys.length ≤ 1000000 := hylen
  refine wpIn_range_ok rfl (by omega) (gf := 67) (lb := #[.pointer (some ⟨w5.heap.size + 1, 0, none⟩)]) rfl trivial (enters_of Try.func67 (by kernel_rfl) rfl)
    (all_stops _ (by omega) (w5.heap.size + 1) a7 c7 bs (by rw [HN.out]; omega) w7 hbx ho7 hsz7) (fun h k => h.trans k) (fun W l o o' hl _ _ => Stays.turn W l o' hl) (fun pre x W l o o' hk _ hl hoc => hk.turn hl hoc) (Below.refl _ _) (fun _ => rfl)
    (fun pre U => (Box U w5.heap.size (.int .i64 (pre.length : Nat)) ∧ Box U w.heap.size (.bool false) ∧ Box U w3.heap.size (.slice ao ys.length co) ∧ Box U (w3.heap.size + 1) (.slice ap ys.length cp) ∧ RdP U w5.heap.size ao (ys.map Rec.part) ∧ RdV U w5.heap.size ap (ys.map Rec.pl)) ∧ Below w.heap.size w U)
    (fun _ _ _ => False)
    (OwnFrom.and (Own.from (fun s A B row hs hg hr => ⟨hs.1.turned hg hr, hs.2.1.turned hg hr, hs.2.2.1.turned hg hr, hs.2.2.2.1.turned hg hr, hs.2.2.2.2.1.turned hg hr, hs.2.2.2.2.2.turned hg hr⟩) _) (ownFrom_below (Nat.le_refl _) (by omega)))
    (fun _ _ _ _ _ hs _ _ => hs)
    ⟨⟨hxk7, hx7, hxl7, hxp7, hP7, hV7⟩, hB7⟩
    ?_ ?_ ?_ ?_ ?_
  case refine_2 =>
    intro l x U K hK
    simp only [Rec.encs]
    gi_wp2
    exact hK
  case refine_5 =>
    rintro D c pre U _ _ h _
    exact h.elim
  case refine_3 =>
    rintro l pre x U ⟨⟨hk, hr, hl, hp, hP, hV⟩, hBU⟩ hok
    obtain ⟨y, hy, hx1, hx2⟩ := recs_round HYS.out hok
    have hlt : pre.length < ys.length := (List.getElem?_eq_some_iff.1 hy).1
    have hlt' : (pre.length : Int) < (ys.length : Int) := by omega
    obtain ⟨b, o, q, rfl, hb, hq, hc, hql, hrq⟩ := hP.at_ (show pre.length < (ys.map Rec.part).length by simpa using hlt)
    obtain rfl : y.part = q := by rw [List.getElem?_map, hy] at hq; injection hq
    obtain ⟨b2, o2, rfl, hb2, hc2⟩ := hV.at_ (k := pre.length) (x := y.pl) (by rw [List.getElem?_map, hy]; rfl)
    have hc' : U.cell? ⟨b, o + pre.length, none⟩ = some (.slice y.a y.x.length y.c) := hc
    have hc2' : U.cell? ⟨b2, o2 + pre.length, none⟩ = some (.int .i64 (y.at_ : Int)) := hc2
    have hne1 : ((x.at_ : Int) != (y.at_ : Int)) = false := by rw [hx1]; simp
    have hst1 := fun k => run_string_b (U.drewN k) _ x.a x.x.length x.c x.x (hok.2.drewN k) rfl
    have hst2 := fun k => run_string_b (U.drewN k) _ y.a y.x.length y.c y.x (hrq.drewN k) rfl
    rw [hx2] at hst1
    have hck := hk.1
    have hcl := hl.1
    have hcp := hp.1
    rw [hx2]
    clear hx1 hx2 hy hq hql hc hc2
    gi_wp2_with fail
    refine wpIn_region_quiet_round rfl (by kernel_rfl) (by kernel_rfl) (by kernel_rfl) ?_
    repeat (quiet_step_in (fail))
    refine wpQuietIn_nil ?_
    rintro _ ⟨nq, rfl⟩
    have hfk := hk.2
    clear hst1 hst2
    gi_wp2_with fail
    obtain ⟨W, hW⟩ : ∃ W, W = (U.drewN nq).setCell ⟨w5.heap.size, 0, none⟩ (.int .i64 ((pre.length : Int) + 1)) := ⟨_, rfl⟩
    rw [← hW]
    obtain ⟨t1, t2, t3, t4, t5, t6⟩ := one_set U nq _ _ (by rw [hck]; rfl) W hW
    clear hW
    have hne : ∀ bl : Nat, bl ≠ w5.heap.size → W.cell? ⟨bl, 0, none⟩ = U.cell? ⟨bl, 0, none⟩ := fun bl h1 => t3 _ (by intro e; injection e with e; exact h1 e)
    refine ⟨t1.from _, t5 _ _ (.inr (by show w5.heap.size < w5.heap.size + 1; omega)), ⟨⟨⟨by rw [t2]; simp, (t4 _).trans hk.2⟩, ⟨(hne _ (by omega)).trans hr.1, (t4 _).trans hr.2⟩, ⟨(hne _ (by omega)).trans hl.1, (t4 _).trans hl.2⟩, ⟨(hne _ (by omega)).trans hp.1, (t4 _).trans hp.2⟩, ?_, ?_⟩, t6 _ _ hBU (by show w.heap.size ≤ w5.heap.size; omega)⟩⟩
    · exact hP.keep fun q hq => t3 _ (by intro e; rw [e] at hq; exact Nat.lt_irrefl _ hq)
    · exact hV.keep fun q hq => t3 _ (by intro e; rw [e] at hq; exact Nat.lt_irrefl _ hq)
  case refine_4 =>
    rintro D zs U hD hzs ⟨⟨hk, hr, hl, hp, hP, hV⟩, hBU⟩ hK
    have hyk : zs.length = ys.length := by have := congrArg List.length (hzs.trans HYS.out.symm); simpa using this
    rw [hyk] at hk
    have hck := hk.1
    have hcl := hl.1
    have hcr := hr.1
    have hfr := hr.2
    clear hP hV
    gi_wp2_with fail
    have hK' := (KeepsOthers.setCell U ⟨w.heap.size, 0, none⟩ (.bool true)).same D _ hK rfl
    refine ⟨by simp, .inl ⟨_, _, rfl, run_takeDeferred hK', ?_⟩⟩
    have hc5 := cell_kept (World.cell?_setCell_same' U ⟨w.heap.size, 0, none⟩ (.bool true) (by rw [hcr]; rfl)) (grownBy_putObj' _ D (.deferred none)) (fun r e => by cases e; exact ⟨_, hK', rfl⟩)
    refine ⟨.bool true, ?_, rfl, (hBU.setCell (p := ⟨w.heap.size, 0, none⟩) (by simp) _).trans (belowK_b (w := w) (Nat.le_refl _) _ D _ _ (by omega) hK' rfl rfl)⟩
    simp [results, go_sem, hc5]
end Go.Proofs.Ytopnhplacdbkdaa
