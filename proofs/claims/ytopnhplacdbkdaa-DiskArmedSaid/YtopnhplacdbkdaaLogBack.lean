/- The walk of the statement LogBack: what was put comes again. Condition: the argument reads as slices of bytes. -/
import Derived.Test.YtopnhplacdbkdaaLogTorn
import Derived.Test.YtopnhplacdbkdaaQuietRound
namespace Go.Proofs.Ytopnhplacdbkdaa
open Go.RowKit Go.Shelf
attribute [local go_sem] Oper.semAt_some

theorem RdP.turned {w w' : World} {B : Nat} {a : Option Addr} {ps : List Part} (h : RdP w B a ps) {row : Option Nat} (hg : w.grownBy w' row) (hr : ∀ r, row = some r → ∃ o : Obj, w.heap[r]? = some o ∧ o.isCells = false) : RdP w' B a ps := by
  rcases h with rfl | ⟨b, o, rfl, hb, hc⟩
  · exact .inl rfl
  · exact .inr ⟨b, o, rfl, hb, fun j p hp => ⟨cell_kept (hc j p hp).1 hg hr, (hc j p hp).2.1, (hc j p hp).2.2.turned hg hr⟩⟩
theorem parts_most {ps : List Part} (hl : ∀ p ∈ ps, p.bs.length ≤ 300) : ∀ b ∈ ps.map (·.bs), b.length ≤ LogM.most := by
  intro b hb
  obtain ⟨p, hp, rfl⟩ := List.mem_map.1 hb
  exact Nat.le_trans (hl p hp) (by decide)
theorem whole_parts {ps : List Part} (hl : ∀ p ∈ ps, p.bs.length ≤ 300) : LogM.whole (catP ps) = (catP ps).length := by
  have := LogM.whole_cat (ps.map (·.bs)) (parts_most hl) [] (by rw [LogM.next_nil]; simp)
  rwa [List.append_nil, ← catP_catB] at this
theorem scan_parts {ps : List Part} (hl : ∀ p ∈ ps, p.bs.length ≤ 300) : LogM.scan (catP ps) = LogM.posB 0 (ps.map (·.bs)) := by
  have := LogM.scan_cat (ps.map (·.bs)) (parts_most hl) [] (by rw [LogM.next_nil]; simp)
  rwa [List.append_nil, ← catP_catB] at this
/-- what a round gets -/
theorem parts_round {ps : List Part} (hl : ∀ p ∈ ps, p.bs.length ≤ 300) {pre : List Rec} {x : Rec} {W : World} (h : RecOk (catP ps) pre x W) :
    ∃ p, ps[pre.length]? = some p ∧ x.at_ = (catP (ps.take pre.length)).length ∧ x.x = p.bs := by
  obtain ⟨r, hr⟩ := h.1
  rw [scan_parts hl] at hr
  have hk : pre.length < ps.length := by
    have := congrArg List.length hr
    rw [LogM.posB_length, List.length_map] at this
    simp at this
    omega
  have hg : (LogM.posB 0 (ps.map (·.bs)))[pre.length]? = some x.pair := by
    rw [← hr, List.append_assoc, List.getElem?_append_right (by simp)]
    simp
  rw [LogM.posB_at 0 _ pre.length (ps[pre.length]).bs (by rw [List.getElem?_map, List.getElem?_eq_getElem hk]; rfl)] at hg
  injection hg with hg
  unfold Rec.pair at hg
  injection hg with h1 h2
  refine ⟨ps[pre.length], List.getElem?_eq_getElem hk, ?_, h2.symm⟩
  rw [← h1, Nat.zero_add, catP_catB, List.map_take]

theorem two_sets (U : World) (j : Nat) (p q : Addr) (u v : Value) (hpq : p ≠ q) (hp : (U.cell? p).isSome = true) (hq : (U.cell? q).isSome = true) (W : World) (hW : W = ((U.drewN j).setCell p u).setCell q v) :
    KeepsOthers U W ∧ W.cell? p = some u ∧ W.cell? q = some v ∧ (∀ x, x ≠ p → x ≠ q → W.cell? x = U.cell? x) ∧ (∀ x, W.frozen? x = U.frozen? x) ∧ (∀ B1 B2, B2 ≤ p.block ∨ p.block < B1 → B2 ≤ q.block ∨ q.block < B1 → Stays B1 B2 U W) ∧ (∀ B a, Below B a U → B ≤ p.block → B ≤ q.block → Below B a W) := by
  subst hW
  have h0 : KeepsOthers U (U.drewN j) := ⟨Nat.le_refl _, fun _ _ h _ => h⟩
  have hp' : ((U.drewN j).cell? p).isSome = true := hp
  have hq' : (((U.drewN j).setCell p u).cell? q).isSome = true := by rw [World.cell?_setCell_other _ _ _ _ hpq]; exact hq
  refine ⟨h0.trans ((KeepsOthers.setCell _ _ _).trans (KeepsOthers.setCell _ _ _)), ?_, World.cell?_setCell_same' _ _ _ hq', ?_, ?_, ?_, ?_⟩
  · rw [World.cell?_setCell_other _ _ _ _ (Ne.symm hpq)]; exact World.cell?_setCell_same' _ _ _ hp'
  · intro x h1 h2
    rw [World.cell?_setCell_other _ _ _ _ (Ne.symm h2), World.cell?_setCell_other _ _ _ _ (Ne.symm h1)]; rfl
  · intro x; rw [World.frozen?_setCell, World.frozen?_setCell]; rfl
  · intro B1 B2 h1 h2
    have hs : Stays B1 B2 U (U.drewN j) := ⟨Nat.le_refl _, fun _ _ _ => rfl⟩
    exact (hs.setCell h1.symm _).setCell h2.symm _
  · intro B a hb h1 h2
    exact ((below_drewN hb j).setCell h1 _).setCell h2 _

set_option maxRecDepth 100000 in
set_option maxHeartbeats 4000000 in
theorem walkLogBack (a : Option Addr) (n c : Nat) (ps : List Part) (most : Nat) (w : World) (hn : ps.length = n) (hm : n ≤ 9223372036854775807) (h : RdP w w.heap.size a ps) (hp : ∀ p ∈ ps, p.n ≤ 9223372036854775807 ∧ p.n ≤ p.c ∧ p.c ≤ 9223372036854775807) (hmost : most < 256) :
    Calls Try.prog 9 #[.slice a n c, .int .u8 most] w fun e w' => e = .returned (.bool true) ∧ Below w.heap.size w w' := by
  refine (callsIn_wide (n := 6)).1 ?_
  refine callsIn_of_wp_marks Try.func9 rfl trivial ?_ rfl
  simp only [Try.ntmps9, List.size_toArray, List.length_cons, List.length_nil, Nat.reduceAdd, Nat.reduceSub, Array.replicate_succ, Array.replicate_zero, List.push_toArray, List.append_toArray, List.nil_append, List.cons_append]
  have HN := Lib.hid hn
  clear hn
  have hb0 : Below w.heap.size w (w.alloc (.cells #[.slice a n c] 38)) := (Below.refl _ _).alloc (Nat.le_refl _) _
  have hB0 : Below w.heap.size w ((w.alloc (.cells #[.slice a n c] 38)).alloc (.cells #[.bool false] 4)) := hb0.alloc hb0.size _
  have h0 := h.step hB0
  have hcl : ((w.alloc (.cells #[.slice a n c] 38)).alloc (.cells #[.bool false] 4)).cell? ⟨w.heap.size, 0, none⟩ = some (.slice a n c) := by
    rw [World.cell?_alloc_lt _ _ _ (by simp), cell_of_row _ _ _ _ _ _ (heap_alloc_new _ _)]; rfl
  have hcr : ((w.alloc (.cells #[.slice a n c] 38)).alloc (.cells #[.bool false] 4)).cell? ⟨w.heap.size + 1, 0, none⟩ = some (.bool false) := by
    rw [← World.size_alloc w (.cells #[.slice a n c] 38), cell_of_row _ _ _ _ _ _ (heap_alloc_new _ _)]; rfl
  have hfr : ((w.alloc (.cells #[.slice a n c] 38)).alloc (.cells #[.bool false] 4)).frozen? ⟨w.heap.size + 1, 0, none⟩ = false := by
    rw [← World.size_alloc w (.cells #[.slice a n c] 38)]; exact frozen_of_row _ _ _ _ _ (heap_alloc_new _ _)
  gi_wp2_with fail
  refine ⟨trivial, ?_⟩
  refine (callsIn_wide.2 (logknown_any _)).mono ?_
  rintro e w1 ⟨rfl, hb1⟩
  have hB1 := Below.next0 hB0 hb1
  have h1 := h0.step hb1
  have hcl1 := (hb1.cell (p := ⟨w.heap.size, 0, none⟩) (by simp; omega)).trans hcl
  have hcr1 := (hb1.cell (p := ⟨w.heap.size + 1, 0, none⟩) (by simp)).trans hcr
  have hfr1 := (hb1.frozen (p := ⟨w.heap.size + 1, 0, none⟩) (by simp)).trans hfr
  have hs1 : w.heap.size + 2 ≤ w1.heap.size := by have := hb1.size; simpa using this
  clear h h0 hcl hcr hfr hb1 hb0 hB0
  gi_wp2_with fail
  refine ⟨trivial, ?_⟩
  refine (callsIn_wide.2 (few_any a n c ps w1 HN.out hm h1 (fun p hpp => (hp p hpp).1))).mono ?_
  rintro e w2 ⟨rfl, rfl⟩
  by_cases hfew : fewB ps = true
  rotate_left
  · have hfe : fewB ps = false := by simpa using hfew
    rw [hfe]
    gi_wp2_with fail
    refine ⟨_, ?_, rfl, hB1.setCell (p := ⟨w.heap.size + 1, 0, none⟩) (by simp) _⟩
    simp [results, go_sem, World.cell?_setCell_same' w1 ⟨w.heap.size + 1, 0, none⟩ (.bool true) (by rw [hcr1]; rfl)]
  obtain ⟨h20, h300⟩ := few_yes hfew
  rw [hfew]
  have hpl : ∀ p ∈ ps, p.bs.length = p.n := fun p hpp => by
    obtain ⟨j, hj, e⟩ := List.getElem_of_mem hpp
    obtain ⟨_, _, q, _, _, hq, _, hl, _⟩ := h1.at_ hj
    rw [List.getElem?_eq_getElem hj, e] at hq
    injection hq with hq
    subst hq; exact hl
  have H20 := Lib.hid h20
  have H300 := Lib.hid h300
  have HPL := Lib.hid hpl
  have HBS := Lib.hid (show ∀ p ∈ ps, p.bs.length ≤ 300 from fun p hpp => by rw [hpl p hpp]; exact h300 p hpp)
  have hT : (catP ps).length ≤ 6240 := catP_small ps h20 HBS.out
  clear hp hfew h20 h300 hpl
  gi_wp2_with fail
  refine ⟨trivial, ?_⟩
  refine (callsIn_wide.2 (alls_any a n c ps w1 HN.out (by rw [← HN.out]; exact H20.out) h1 H300.out HPL.out)).mono ?_
  rintro e w3 ⟨a3, c3, rfl, ho3, hb3⟩
  have hB3 : Below w.heap.size w w3 := Below.next0 hB1 hb3
  have h3 := h1.step hb3
  have hr3 := ho3.rd
  have hcap3 := ho3.cap
  unfold maxLen at hcap3
  have hcl3 := (hb3.cell (p := ⟨w.heap.size, 0, none⟩) (by simp; omega)).trans hcl1
  have hcr3 := (hb3.cell (p := ⟨w.heap.size + 1, 0, none⟩) (by simp; omega)).trans hcr1
  have hfr3 := (hb3.frozen (p := ⟨w.heap.size + 1, 0, none⟩) (by simp; omega)).trans hfr1
  have hs3 := hb3.size
  clear h1 hB1 ho3 hb3 hcl1 hcr1 hfr1
  obtain ⟨TL, hTL⟩ : ∃ TL, TL = (catP ps).length := ⟨_, rfl⟩
  have HTL := Lib.hid hTL
  rw [← hTL] at hT hcap3 ⊢
  clear hTL
  gi_wp2_with fail
  refine ⟨trivial, ?_⟩
  refine (callsIn_wide.2 (whole_any a3 TL c3 (catP ps) w3 HTL.out.symm (by omega) hr3)).mono ?_
  rw [whole_parts HBS.out, ← HTL.out]
  rintro e w4 ⟨rfl, hb4⟩
  have hB4 : Below w.heap.size w w4 := Below.next0 hB3 hb4
  have h4 := h3.step hb4
  have hr4 := hr3.step hb4
  have hcl4 := (hb4.cell (p := ⟨w.heap.size, 0, none⟩) (by simp; omega)).trans hcl3
  have hcr4 := (hb4.cell (p := ⟨w.heap.size + 1, 0, none⟩) (by simp; omega)).trans hcr3
  have hfr4 := (hb4.frozen (p := ⟨w.heap.size + 1, 0, none⟩) (by simp; omega)).trans hfr3
  have hs4 := hb4.size
  clear h3 hB3 hr3 hb4 hcl3 hcr3 hfr3
  gi_wp2_with fail
  obtain ⟨m, hmE, hmn⟩ : ∃ m : Nat, (n : Int) = (m : Int) ∧ m ≤ n := ⟨n, rfl, Nat.le_refl _⟩
  rw [hmE]
  clear hmE
  rotate_left
  obtain ⟨m, hmE, hmn⟩ : ∃ m : Nat, (most : Int) = (m : Int) ∧ m ≤ n := ⟨most, rfl, by omega⟩
  rw [hmE]
  clear hmE
  all_goals (
    refine ⟨trivial, ?_⟩
    obtain ⟨W3, hW3⟩ : ∃ W3, W3 = ((w4.alloc (.cells #[.int .i64 (m : Int)] 3)).alloc (.cells #[.int .i64 0] 3)).alloc (.cells #[.int .i64 0] 3) := ⟨_, rfl⟩
    have hb5 : Below w4.heap.size w4 W3 := by rw [hW3]; exact (((Below.refl _ w4).alloc (Nat.le_refl _) _).alloc (by simp) _).alloc (by simp; omega) _
    have hs5 : W3.heap.size = w4.heap.size + 3 := by rw [hW3]; simp
    have hcm : W3.cell? ⟨w4.heap.size, 0, none⟩ = some (.int .i64 (m : Int)) := by
      rw [hW3, World.cell?_alloc_lt _ _ _ (by simp; omega), World.cell?_alloc_lt _ _ _ (by simp), cell_of_row _ _ _ _ _ _ (heap_alloc_new _ _)]; rfl
    have hck : W3.cell? ⟨w4.heap.size + 1, 0, none⟩ = some (.int .i64 0) := by
      rw [hW3, World.cell?_alloc_lt _ _ _ (by simp), ← World.size_alloc w4 (.cells #[.int .i64 (m : Int)] 3), cell_of_row _ _ _ _ _ _ (heap_alloc_new _ _)]; rfl
    have hcat : W3.cell? ⟨w4.heap.size + 1 + 1, 0, none⟩ = some (.int .i64 0) := by
      rw [hW3, show w4.heap.size + 1 + 1 = ((w4.alloc (.cells #[.int .i64 (m : Int)] 3)).alloc (.cells #[.int .i64 0] 3)).heap.size by simp, cell_of_row _ _ _ _ _ _ (heap_alloc_new _ _)]; rfl
    have hfk : W3.frozen? ⟨w4.heap.size + 1, 0, none⟩ = false := by
      rw [hW3, World.frozen?_alloc_past _ _ _ (by simp), ← World.size_alloc w4 (.cells #[.int .i64 (m : Int)] 3)]; exact frozen_of_row _ _ _ _ _ (heap_alloc_new _ _)
    have hfat : W3.frozen? ⟨w4.heap.size + 1 + 1, 0, none⟩ = false := by
      rw [hW3, show w4.heap.size + 1 + 1 = ((w4.alloc (.cells #[.int .i64 (m : Int)] 3)).alloc (.cells #[.int .i64 0] 3)).heap.size by simp]; exact frozen_of_row _ _ _ _ _ (heap_alloc_new _ _)
    rw [← hW3]
    clear hW3
    have h5 := h4.step hb5
    have hr5 := hr4.step hb5
    refine (callsIn_wide.2 (all_any a3 TL c3 (catP ps) W3 HTL.out.symm (by omega) hr5)).mono ?_
    rintro e w6 ⟨a6, c6, rfl, hbx, ho6, hb6, hsz6⟩
    have hb46 : Below w4.heap.size w4 w6 := Below.next0 hb5 hb6
    have hB6 : Below w.heap.size w w6 := Below.next0 hB4 hb46
    have h6 : RdP w6 w4.heap.size a ps := h4.below hb46
    have hcl6 := (hb46.cell (p := ⟨w.heap.size, 0, none⟩) (by simp; omega)).trans hcl4
    have hcr6 := (hb46.cell (p := ⟨w.heap.size + 1, 0, none⟩) (by simp; omega)).trans hcr4
    have hfr6 := (hb46.frozen (p := ⟨w.heap.size + 1, 0, none⟩) (by simp; omega)).trans hfr4
    have hcm6 := (hb6.cell (p := ⟨w4.heap.size, 0, none⟩) (by simp; omega)).trans hcm
    have hck6 := (hb6.cell (p := ⟨w4.heap.size + 1, 0, none⟩) (by simp; omega)).trans hck
    have hfk6 := (hb6.frozen (p := ⟨w4.heap.size + 1, 0, none⟩) (by simp; omega)).trans hfk
    have hcat6 := (hb6.cell (p := ⟨w4.heap.size + 1 + 1, 0, none⟩) (by simp; omega)).trans hcat
    have hfat6 := (hb6.frozen (p := ⟨w4.heap.size + 1 + 1, 0, none⟩) (by simp; omega)).trans hfat
    have hs6 := hb6.size
    clear hcm hck hcat hfk hfat hb6 h5 hr5 hcl4 hcr4 hfr4
    rw [hs5] at hbx ho6 hsz6 ⊢
    gi_wp2_with fail
    refine wpIn_range_ok rfl (by omega) (gf := 67) (lb := #[.pointer (some ⟨w4.heap.size + 3, 0, none⟩)]) rfl trivial (enters_of Try.func67 (by kernel_rfl) rfl)
      (all_stops _ (by omega) (w4.heap.size + 3) a6 c6 (catP ps) (by rw [← HTL.out]; omega) w6 (by rw [hbx]) (by exact ho6) hsz6) (fun h k => h.trans k) (fun W l o o' hl _ _ => Stays.turn W l o' hl) (fun pre x W l o o' hk _ hl hoc => hk.turn hl hoc) (Below.refl _ _) (fun _ => rfl)
      (fun pre U => (pre.length ≤ m ∧ (U.cell? ⟨w4.heap.size + 1, 0, none⟩ = some (.int .i64 (pre.length : Nat)) ∧ U.frozen? ⟨w4.heap.size + 1, 0, none⟩ = false) ∧ (U.cell? ⟨w4.heap.size + 1 + 1, 0, none⟩ = some (.int .i64 ((catP (ps.take pre.length)).length : Nat)) ∧ U.frozen? ⟨w4.heap.size + 1 + 1, 0, none⟩ = false) ∧ U.cell? ⟨w4.heap.size, 0, none⟩ = some (.int .i64 (m : Int)) ∧ U.cell? ⟨w.heap.size, 0, none⟩ = some (.slice a n c) ∧ (U.cell? ⟨w.heap.size + 1, 0, none⟩ = some (.bool false) ∧ U.frozen? ⟨w.heap.size + 1, 0, none⟩ = false) ∧ RdP U w4.heap.size a ps) ∧ Below w.heap.size w U)
      (fun c _ U => (c = .exit 0 ∧ U.cell? ⟨w4.heap.size + 1, 0, none⟩ = some (.int .i64 (m : Nat)) ∧ U.cell? ⟨w4.heap.size, 0, none⟩ = some (.int .i64 (m : Int)) ∧ (U.cell? ⟨w.heap.size + 1, 0, none⟩ = some (.bool false) ∧ U.frozen? ⟨w.heap.size + 1, 0, none⟩ = false)) ∧ Below w.heap.size w U)
      (OwnFrom.and (Own.from (fun s A B row hs hg hr => ⟨hs.1, ⟨cell_kept hs.2.1.1 hg hr, (frozen_kept hs.2.1.1 hg hr).trans hs.2.1.2⟩, ⟨cell_kept hs.2.2.1.1 hg hr, (frozen_kept hs.2.2.1.1 hg hr).trans hs.2.2.1.2⟩, cell_kept hs.2.2.2.1 hg hr, cell_kept hs.2.2.2.2.1 hg hr, ⟨cell_kept hs.2.2.2.2.2.1.1 hg hr, (frozen_kept hs.2.2.2.2.2.1.1 hg hr).trans hs.2.2.2.2.2.1.2⟩, hs.2.2.2.2.2.2.turned hg hr⟩) _) (ownFrom_below (Nat.le_refl _) (by omega)))
      (fun c => OwnFrom.and (Own.from (fun s A B row hs hg hr => ⟨hs.1, cell_kept hs.2.1 hg hr, cell_kept hs.2.2.1 hg hr, ⟨cell_kept hs.2.2.2.1 hg hr, (frozen_kept hs.2.2.2.1 hg hr).trans hs.2.2.2.2⟩⟩) _) (ownFrom_below (Nat.le_refl _) (by omega)))
      ⟨⟨Nat.zero_le _, ⟨hck6, hfk6⟩, ⟨hcat6, hfat6⟩, hcm6, hcl6, ⟨hcr6, hfr6⟩, h6⟩, hB6⟩
      ?_ ?_ ?_ ?_ ?_
    case refine_2 =>
      intro l x U K hK
      simp only [Rec.encs]
      gi_wp2
      exact hK
    case refine_3 =>
      rintro l pre x U ⟨⟨hpm, ⟨hck, hfk⟩, ⟨hcat, hfat⟩, hcm, hcl, ⟨hcr, hfr⟩, hP⟩, hBU⟩ hok
      obtain ⟨p, hpp, hx1, hx2⟩ := parts_round HBS.out hok
      by_cases hkm : pre.length = m
      · have hkm' : ((pre.length : Int) == (m : Int)) = true := by rw [beq_iff_eq]; omega
        gi_wp2_with fail
        exact ⟨(KeepsOthers.refl _).from _, ⟨rfl, by rw [hck, hkm], hcm, hcr, hfr⟩, hBU⟩
      · have hkm' : ((pre.length : Int) == (m : Int)) = false := by rw [beq_eq_false_iff_ne]; omega
        have hlt : pre.length < n := by have := (List.getElem?_eq_some_iff.1 hpp).1; rw [HN.out] at this; exact this
        obtain ⟨b, o, q, rfl, hb, hqq, hc, hl, hrq⟩ := hP.at_ (show pre.length < ps.length by rw [HN.out]; exact hlt)
        obtain rfl : p = q := by rw [hpp] at hqq; injection hqq
        have hp3 := H300.out p (List.mem_of_getElem? hpp)
        have hne1 : ((x.at_ : Int) != (((catP (ps.take pre.length)).length : Nat) : Int)) = false := by rw [hx1]; simp
        have hst1 := fun k => run_string_b (U.drewN k) _ x.a x.x.length x.c x.x (hok.2.drewN k) rfl
        have hst2 := fun k => run_string_b (U.drewN k) _ p.a p.n p.c p.bs (hrq.drewN k) hl
        have hxn : x.x.length = p.n := by rw [hx2, hl]
        rw [hxn, hx2] at hst1
        have hlt' : (pre.length : Int) < (n : Int) := by omega
        have HX1 := Lib.hid hx1
        have HX2 := Lib.hid hx2
        have HPP := Lib.hid hpp
        have HL := Lib.hid hl
        rw [hxn]
        clear hx1 hx2 hpp hl hqq
        gi_wp2_with fail
        refine wpIn_region_quiet_round rfl (by kernel_rfl) (by kernel_rfl) (by kernel_rfl) ?_
        repeat (quiet_step_in (fail))
        refine wpQuietIn_nil ?_
        rintro _ ⟨nq, rfl⟩
        have hsum : max (min ((p.n : Nat) : Int) 65536) 0 + 12 = ((p.n + 12 : Nat) : Int) := by omega
        have hLle : (catP (ps.take pre.length)).length ≤ 312 * pre.length := catP_le ps _ HBS.out
        have hl20 : pre.length < 20 := by have := H20.out; rw [HN.out] at this; omega
        have HLen : Hid ((catP (ps.take (pre.length + 1))).length = (catP (ps.take pre.length)).length + (p.n + 12)) := Lib.hid (by rw [catP_snoc HPP.out, List.length_append, LogM.put_length, HL.out])
        generalize (catP (ps.take pre.length)).length = L at hcat hne1 hLle HX1 HLen
        have hL6 : L ≤ 6240 := by omega
        gi_wp2_with fail
        have hmix : Try.prog.follows .mixedOrders = true := by kernel_rfl
        gi_region_with_o (refine ⟨trivial, ?_⟩; gi_at_call 27; refine (CallsIn.inRound l (callsIn_wide.2 (size_any _ _))).mono ?_; rintro e w2 ⟨rfl, rfl⟩; rw [hsum])
        clear hmix hst1 hst2 HX1 HX2 HPP HL
        all_goals (gi_wp2_with fail)
        all_goals (
          obtain ⟨W, hW⟩ : ∃ W, W = ((U.drewN (nq + 1)).setCell ⟨w4.heap.size + 1 + 1, 0, none⟩ (.int .i64 ((L : Int) + ((p.n : Int) + 12)))).setCell ⟨w4.heap.size + 1, 0, none⟩ (.int .i64 ((pre.length : Int) + 1)) := ⟨_, rfl⟩
          rw [← hW]
          obtain ⟨t1, t2, t3, t4, t5, t6, t7⟩ := two_sets U (nq + 1) _ _ _ _ (by intro e; injection e with e; omega) (by rw [hcat]; rfl) (by rw [hck]; rfl) W hW
          clear hW
          have hne : ∀ bl : Nat, bl ≠ w4.heap.size + 1 + 1 → bl ≠ w4.heap.size + 1 → W.cell? ⟨bl, 0, none⟩ = U.cell? ⟨bl, 0, none⟩ := fun bl h1 h2 => t4 _ (by intro e; injection e with e; exact h1 e) (by intro e; injection e with e; exact h2 e)
          refine ⟨t1.from _, t6 _ _ (.inr (by show w4.heap.size + 1 + 1 < w4.heap.size + 3; omega)) (.inr (by show w4.heap.size + 1 < w4.heap.size + 3; omega)), ⟨⟨by simp; omega, ⟨?_, (t5 _).trans hfk⟩, ⟨?_, (t5 _).trans hfat⟩, (hne _ (by omega) (by omega)).trans hcm, (hne _ (by omega) (by omega)).trans hcl, ⟨(hne _ (by omega) (by omega)).trans hcr, (t5 _).trans hfr⟩, ?_⟩, t7 _ _ hBU (by show w.heap.size ≤ w4.heap.size + 1 + 1; omega) (by show w.heap.size ≤ w4.heap.size + 1; omega)⟩⟩
          · rw [t3]; simp
          · rw [t2, List.length_append, List.length_singleton, HLen.out]; push_cast; rfl
          · exact hP.keep fun q hq => t4 _ (by intro e; rw [e] at hq; have hq' : w4.heap.size + 1 + 1 < w4.heap.size := hq; omega) (by intro e; rw [e] at hq; have hq' : w4.heap.size + 1 < w4.heap.size := hq; omega))
    case refine_4 =>
      rintro D ys U hD hys ⟨⟨hpm, ⟨hck, hfk⟩, ⟨hcat, hfat⟩, hcm, hcl, ⟨hcr, hfr⟩, hP⟩, hBU⟩ hK
      have hyl : ys.length = n := by
        have := congrArg List.length hys
        rw [scan_parts HBS.out, LogM.posB_length, List.length_map, List.length_map, HN.out] at this
        exact this
      have hym : ys.length = m := by omega
      rw [hym] at hck
      clear hcat hP
      gi_wp2_with fail
      have hK' := (KeepsOthers.setCell U ⟨w.heap.size + 1, 0, none⟩ (.bool true)).same D _ hK rfl
      refine ⟨by simp, .inl ⟨_, _, rfl, run_takeDeferred hK', ?_⟩⟩
      have hc5 := cell_kept (World.cell?_setCell_same' U ⟨w.heap.size + 1, 0, none⟩ (.bool true) (by rw [hcr]; rfl)) (grownBy_putObj' _ D (.deferred none)) (fun r e => by cases e; exact ⟨_, hK', rfl⟩)
      refine ⟨.bool true, ?_, rfl, (hBU.setCell (p := ⟨w.heap.size + 1, 0, none⟩) (by simp) _).trans (belowK_b (w := w) (Nat.le_refl _) _ D _ _ (by omega) hK' rfl rfl)⟩
      simp [results, go_sem, hc5]
    case refine_5 =>
      rintro D c pre U hD hys ⟨⟨rfl, hck, hcm, ⟨hcr, hfr⟩⟩, hBU⟩ hK
      gi_wp2_with fail
      have hK' := (KeepsOthers.setCell U ⟨w.heap.size + 1, 0, none⟩ (.bool true)).same D _ hK rfl
      refine ⟨by simp, .inl ⟨_, _, rfl, run_takeDeferred hK', ?_⟩⟩
      have hc5 := cell_kept (World.cell?_setCell_same' U ⟨w.heap.size + 1, 0, none⟩ (.bool true) (by rw [hcr]; rfl)) (grownBy_putObj' _ D (.deferred none)) (fun r e => by cases e; exact ⟨_, hK', rfl⟩)
      refine ⟨.bool true, ?_, rfl, (hBU.setCell (p := ⟨w.heap.size + 1, 0, none⟩) (by simp) _).trans (belowK_b (w := w) (Nat.le_refl _) _ D _ _ (by omega) hK' rfl rfl)⟩
      simp [results, go_sem, hc5]
    )
end Go.Proofs.Ytopnhplacdbkdaa
