/- The walk of the statement DiskWalks. Condition: the acts lie in memory. -/
import Derived.Test.YtopnhplacdbkdaaLight21
import Derived.Test.YtopnhplacdbkdaaDiskKnown
namespace Go.Proofs.Ytopnhplacdbkdaa
open Go.RowKit DiskM Go.Shelf
attribute [local go_sem] Oper.semAt_some

/-- a row that is none of the disk's files -/
theorem disk_off {w : World} {fp fq : Nat → Prop} {p mb g : Nat} {fv : FVs} {d d' : DS} (h : DiskRaw w fp p mb fv d) (h' : DiskMb w fq p mb d') (hg : ¬ fq g) : ∀ y ∈ fv, ∀ ad, y.2.a = some ad → ad.block ≠ g := by
  intro y hy ad ha e
  obtain ⟨fv', h'⟩ := h'
  have hyl : y.1.length ≤ 16 := by
    have : (y.1, y.2.abs) ∈ d.files := by rw [h.files]; exact List.mem_map.2 ⟨y, hy, rfl⟩
    exact h.ok.name _ this
  have h1 := h.look_plain ⟨y.1.toArray⟩ (by show y.1.toArray.size ≤ _; unfold maxLen; simp; omega)
  rw [h'.look_plain ⟨y.1.toArray⟩ (by show y.1.toArray.size ≤ _; unfold maxLen; simp; omega)] at h1
  have e1 : getF fv' y.1 = getF fv' (⟨y.1.toArray⟩ : ByteArray).data.toList := rfl
  have e2 : getF fv y.1 = getF fv (⟨y.1.toArray⟩ : ByteArray).data.toList := rfl
  injection h1 with h1 _
  injection h1 with h1
  injection h1 with h1
  simp only [List.cons.injEq, Value.slice.injEq, Value.int.injEq, true_and, and_true] at h1
  obtain ⟨⟨ha2, _, _⟩, _⟩ := h1
  rw [← e1, ← e2] at ha2
  have hgy : getF fv y.1 = y.2 := by
    have hr : Rising fv := by have := h.ok.rising; rw [h.files] at this; exact Rising.map.1 this
    unfold getF
    rw [look_of_mem hr.apart hy]; rfl
  rw [hgy, ha] at ha2
  exact hg (e ▸ h'.filfp y.1 ad ha2)
/-- a byte of a row that is none of the disk's -/
theorem byte_round {U : World} {Bx g n c p mb : Nat} {bs : List UInt8} {fpx : Nat → Prop} {dx : DS} {S : Nat → Prop} {ns : List Nm} {v : Value} (ho : Own U Bx (some ⟨g, 0, none⟩) n c bs) (hd : DiskMb U fpx p mb dx) (hg : ¬ fpx g) (j : Nat) :
    KeepsFrom Bx U (U.setCell ⟨g, j, none⟩ v) ∧ DKp S Bx p mb ns U (U.setCell ⟨g, j, none⟩ v) ∧ DiskMb (U.setCell ⟨g, j, none⟩ v) fpx p mb dx := by
  have hcur : ∃ cur, U.heap[g]? = some (.cells cur 5 (0, 0)) ∧ Bx ≤ g := by
    rcases ho.form with ⟨h0, _⟩ | ⟨g', cur, e1, hB, _, hh, _⟩
    · cases h0
    · injection e1 with e1; injection e1 with e1; subst e1; exact ⟨cur, hh, hB⟩
  obtain ⟨cur, hcur, hBg⟩ := hcur
  have hoth : ∀ k, k ≠ g → (U.setCell ⟨g, j, none⟩ v).heap[k]? = U.heap[k]? := fun k hk => Below.heap_setCell _ _ _ _ hk
  have key : ∀ fp d, DiskMb U fp p mb d → DiskMb (U.setCell ⟨g, j, none⟩ v) fp p mb d := by
    rintro fp d ⟨fv, hr⟩
    have hoff := disk_off hr hd hg
    have hp : p ≠ g := by
      intro e
      have := hr.cells
      rw [e, hcur] at this
      injection this with this
      injection this with _ this _
      exact absurd this (by decide)
    have hm : mb ≠ g := by
      intro e
      obtain ⟨fvx, hx⟩ := hd
      exact hg (e ▸ hx.fpm)
    exact ⟨fv, hr.keepc (hoth p hp) (hoth mb hm) (fun x hx ad ha => hoth _ (hoff x hx ad ha)) (by simp [World.setCell])⟩
  refine ⟨(KeepsOthers.setCell _ _ _).from _, fun fp d hdd hn => ⟨fp, d, key fp d hdd, hn, fun k hk => .inl hk, by simp [World.setCell], fun k _ hm => hoth k fun e => hm (.inr (.inr ⟨e ▸ hBg, _, e ▸ hcur, .inr ⟨cur, _, rfl⟩⟩))⟩, key fpx dx hd⟩

set_option maxRecDepth 100000 in
set_option maxHeartbeats 8000000 in
theorem walkDiskWalks (a : Option Addr) (n c : Nat) (xs : List Act21) (m : Nat) (w : World) (hn : xs.length = n) (hmx : n ≤ 9223372036854775807) (h : RdA w w.heap.size a xs) (hm : m < 256) :
    Calls Try.prog 15 #[.slice a n c, .int .u8 (m : Int)] w fun e w' => e = .returned (.bool true) ∧ Below w.heap.size w w' := by
  refine (callsIn_wide (n := 6)).1 ?_
  refine callsIn_of_wp_marks Try.func15 rfl trivial ?_ rfl
  simp only [Try.ntmps15, List.size_toArray, List.length_cons, List.length_nil, Nat.reduceAdd, Nat.reduceSub, Array.replicate_succ, Array.replicate_zero, List.push_toArray, List.append_toArray, List.nil_append, List.cons_append]
  refine wpIn_wide.2 ?_
  have H := Lib.hid h
  have HN := Lib.hid hn
  clear h hn
  go_wp2_with fail
  have hb0 : Below w.heap.size w (w.alloc (.cells #[.bool false] 4)) := (Below.refl _ _).alloc (Nat.le_refl _) _
  have x4 := heap_alloc_new w (.cells #[.bool false] 4)
  have hs0 : w.heap.size < (w.alloc (.cells #[.bool false] 4)).heap.size := by simp
  generalize w.alloc (.cells #[.bool false] 4) = W0 at *
  refine (diskknown_any W0).mono ?_
  rintro e w1 ⟨rfl, hb1⟩
  have hx41 := (hb1.block _ hs0).trans x4
  have hB1 : Below w.heap.size w w1 := Below.next0 hb0 hb1
  have hs1 : w.heap.size < w1.heap.size := Nat.lt_of_lt_of_le hs0 hb1.size
  have HX4 := Lib.hid hx41
  have HB1 := Lib.hid hB1
  clear hb0 x4 hb1 hx41 hB1 hs0
  go_wp2_with fail
  have hrd1 := H.out.below HB1.out
  refine (light21_any w1 a n c xs HN.out hmx hrd1).mono ?_
  rintro e w' ⟨rfl, rfl⟩
  by_cases hl : lightB xs = true
  rotate_left
  · have hl' : lightB xs = false := by simpa using hl
    have hc4 : w1.cell? ⟨w.heap.size, 0, none⟩ = some (.bool false) := cell_of_row _ _ 0 _ _ _ HX4.out
    have hf4 : w1.frozen? ⟨w.heap.size, 0, none⟩ = false := frozen_of_row _ _ 0 _ _ HX4.out
    rw [hl']
    clear hl hl' hrd1
    go_wp2_with fail
    refine ⟨_, ?_, rfl, HB1.out.setCell (p := ⟨w.heap.size, 0, none⟩) (Nat.le_refl _) _⟩
    simp [results, go_sem, World.cell?_setCell_same' w1 ⟨w.heap.size, 0, none⟩ (.bool true) (by rw [hc4]; rfl)]
  have hn60 : n ≤ 60 := by
    unfold lightB at hl
    simp only [Bool.and_eq_true, decide_eq_true_eq] at hl
    rw [← HN.out]; exact hl.1
  have hall : ∀ x ∈ xs, light1 x = true := by
    unfold lightB at hl
    simp only [Bool.and_eq_true, List.all_eq_true] at hl
    exact hl.2
  have HALL := Lib.hid hall
  have HRD1 := Lib.hid hrd1
  rw [hl]
  clear hl hall hrd1
  go_wp2_with fail
  refine (new_k 2000 w1 w1.heap.size (fun _ => False) (Nat.le_refl _) (fun k h => h.elim)).mono ?_
  rintro e w2 ⟨p, rfl, hk2, hb2⟩
  have HK2 := Lib.hid hk2
  have HB2 := Lib.hid hb2
  clear hk2 hb2
  go_wp2_with fail
  refine (refnew_any 2000 w2).mono ?_
  rintro e w3 ⟨r, fq, rfl, hr3, hq3, hb3⟩
  have hboth3 : Both w3 w1.heap.size (fun _ => False) p r (fresh 2000) := ⟨fq, hr3, HK2.out.more hb3 (fun k hk => by
    rcases hk with hk | hk
    · exact .inr ⟨hq3 k hk, hr3.lt k hk⟩
    · exact hk.elim), fun k hk => ⟨by have := hq3 k hk; have := HB2.out.size; omega, fun h => h⟩⟩
  have hb13 : Below w1.heap.size w1 w3 := HB2.out.trans (hb3.mono HB2.out.size)
  have HBO3 := Lib.hid hboth3
  have HB13 := Lib.hid hb13
  clear hr3 hq3 hb3 hboth3 hb13
  go_upto_block 0 with fail
  have hb4 : Below w3.heap.size w3 (w3.alloc (.cells #[.pointer (some ⟨r, 0, none⟩)] 68)) := (Below.refl _ _).alloc (Nat.le_refl _) _
  have x6 := heap_alloc_new w3 (.cells #[.pointer (some ⟨r, 0, none⟩)] 68)
  have hs6 : w3.heap.size < (w3.alloc (.cells #[.pointer (some ⟨r, 0, none⟩)] 68)).heap.size := by simp
  generalize w3.alloc (.cells #[.pointer (some ⟨r, 0, none⟩)] 68) = W4 at *
  have hbo4 : Both W4 w1.heap.size (fun k => k = w3.heap.size) p r (fresh 2000) := HBO3.out.more hb4 (fun k hk => .inr ⟨by omega, by omega⟩)
  have hw4 : Below w.heap.size w W4 := HB1.out.trans ((HB13.out.trans (hb4.mono HB13.out.size)).mono HB1.out.size)
  have HX6 := Lib.hid x6
  have HBO4 := Lib.hid hbo4
  have HW4 := Lib.hid hw4
  have HB14 := Lib.hid (HB13.out.trans (hb4.mono HB13.out.size))
  have hs13 : w1.heap.size ≤ w3.heap.size := HB13.out.size
  clear x6 hbo4 hw4 hb4
  go_wp2_with fail
  go_loopw [7] (fun v wr => ∃ (k : Nat) (d : DS), v = .int .i64 k ∧ k ≤ n ∧ Both wr w1.heap.size (fun j => j = w3.heap.size) p r d ∧ d.files.length ≤ k ∧ Turn (off w1.heap.size fun j => j = w3.heap.size) W4 wr) (fun v _ => n - (intOf v).toNat)
  case atStart => exact ⟨0, fresh 2000, rfl, Nat.zero_le _, HBO4.out, Nat.le_refl _, Turn.refl _ _⟩
  case round =>
    obtain ⟨k, d, rfl, hk, hbo, hdl, hT⟩ := hrel
    have hwr : Below w.heap.size w wr := Below.turn HW4.out hT HW4.out.size fun j hj => by have := hj.1; omega
    have hx6r : wr.heap[w3.heap.size]? = some (.cells #[.pointer (some ⟨r, 0, none⟩)] 68 (0, 0)) := (hT.block _ hs6 fun h => h.2 rfl).trans HX6.out
    have hx4r : wr.heap[w.heap.size]? = some (.cells #[.bool false] 4 (0, 0)) := by
      have h1 : W4.heap[w.heap.size]? = w1.heap[w.heap.size]? := HB14.out.block _ hs1
      exact (hT.block _ (by omega) fun h => by have := h.1; omega).trans (h1.trans HX4.out)
    have HBO := Lib.hid hbo
    have HT := Lib.hid hT
    have HWR := Lib.hid hwr
    have HX6R := Lib.hid hx6r
    have HX4R := Lib.hid hx4r
    by_cases hlt : k < n
    · obtain ⟨x, hx⟩ : ∃ x, xs[k]? = some x := ⟨_, List.getElem?_eq_getElem (by rw [HN.out]; exact hlt)⟩
      obtain ⟨b, o, rfl, hbl, hc, hok⟩ := (H.out.below hwr).at_ hx
      have c0 : wr.drew.cell? ⟨b, o + k * 7, none⟩ = some (.int .u8 (x.kind : Int)) := hc 0 _ rfl
      have c1 : wr.drew.cell? ⟨b, o + k * 7 + 1, none⟩ = some (.string x.nm) := hc 1 _ rfl
      have c2 : wr.drew.cell? ⟨b, o + k * 7 + 2, none⟩ = some (.string x.other) := hc 2 _ rfl
      have c3 : wr.drew.cell? ⟨b, o + k * 7 + 3, none⟩ = some (.slice x.a x.n x.c) := hc 3 _ rfl
      have c4 : wr.drew.cell? ⟨b, o + k * 7 + 4, none⟩ = some (.int .i64 x.num) := hc 4 _ rfl
      have c5 : wr.drew.cell? ⟨b, o + k * 7 + 5, none⟩ = some (.bool x.done) := hc 5 _ rfl
      have c6 : wr.drew.cell? ⟨b, o + k * 7 + 6, none⟩ = some (.int .u32 (x.mask : Int)) := hc 6 _ rfl
      have c7 : wr.drew.cell? ⟨w3.heap.size, 0, none⟩ = some (.pointer (some ⟨r, 0, none⟩)) := cell_of_row wr _ 0 _ _ _ hx6r
      have hlt' : (k : Int) < (n : Int) := by omega
      have hfine : x.Fine wr.drew w1.heap.size := ((hok.fine (HALL.out x (List.mem_of_getElem? hx))).up (Nat.le_of_lt hs1)).turn (S := fun j => j = w3.heap.size) ((Turn.refl _ _).drew) hbo.base
      have hbod : Both wr.drew w1.heap.size (fun j => j = w3.heap.size) p r d := hbo.below (Below.refl _ _).drew
      have HFINE := Lib.hid hfine
      have HBOD := Lib.hid hbod
      have hbl' : b < w1.heap.size := by omega
      have hbs := hbo.base
      clear hc hok hfine hbod hx hbo hT hwr hx6r hx4r
      go_wp2_with fail
      go_region_held3 (fun W => W.cell? ⟨w3.heap.size, 0, none⟩ = some (.pointer (some ⟨r, 0, none⟩)) ∧ W.cell? ⟨b, o + k * 7, none⟩ = some (.int .u8 (x.kind : Int)) ∧ W.cell? ⟨b, o + k * 7 + 1, none⟩ = some (.string x.nm) ∧ W.cell? ⟨b, o + k * 7 + 2, none⟩ = some (.string x.other) ∧ W.cell? ⟨b, o + k * 7 + 3, none⟩ = some (.slice x.a x.n x.c) ∧ W.cell? ⟨b, o + k * 7 + 4, none⟩ = some (.int .i64 x.num) ∧ W.cell? ⟨b, o + k * 7 + 5, none⟩ = some (.bool x.done) ∧ W.cell? ⟨b, o + k * 7 + 6, none⟩ = some (.int .u32 (x.mask : Int)))
        (first | exact ⟨c7, c0, c1, c2, c3, c4, c5, c6⟩ | (refine ⟨?_, ?_, ?_, ?_, ?_, ?_, ?_, ?_⟩ <;> assumption))
        (first
          | (go_at_call 49; refine (do21_any HBOD.out x HFINE.out (by omega)).mono ?_; rintro e w5 ⟨rfl, dn, hbo5, ht5, hl5⟩; have d7 := cell_still ht5 rfl c7; have d0 := (ht5.cell (block_lt_of_cell c0) (fun h => by have := h.1; have h2 : w1.heap.size ≤ b := this; omega)).trans c0; have d1 := (ht5.cell (block_lt_of_cell c1) (fun h => by have := h.1; have h2 : w1.heap.size ≤ b := this; omega)).trans c1; have d2 := (ht5.cell (block_lt_of_cell c2) (fun h => by have := h.1; have h2 : w1.heap.size ≤ b := this; omega)).trans c2; have d3 := (ht5.cell (block_lt_of_cell c3) (fun h => by have := h.1; have h2 : w1.heap.size ≤ b := this; omega)).trans c3; have d4 := (ht5.cell (block_lt_of_cell c4) (fun h => by have := h.1; have h2 : w1.heap.size ≤ b := this; omega)).trans c4; have d5 := (ht5.cell (block_lt_of_cell c5) (fun h => by have := h.1; have h2 : w1.heap.size ≤ b := this; omega)).trans c5; have d6 := (ht5.cell (block_lt_of_cell c6) (fun h => by have := h.1; have h2 : w1.heap.size ≤ b := this; omega)).trans c6))
      go_wp2_with fail
      go_roundw
      case rel => exact ⟨k + 1, dn, by go_num, by omega, hbo5, by omega, (HT.out.trans0 (Turn.refl _ _).drew).trans0 ht5⟩
      case measure => simp [intOf]; omega
    · obtain rfl : n = k := by omega
      have c7 : wr.cell? ⟨w3.heap.size, 0, none⟩ = some (.pointer (some ⟨r, 0, none⟩)) := cell_of_row wr _ 0 _ _ _ hx6r
      obtain ⟨ns, hns⟩ : ∃ ns, namesOf d = ns := ⟨_, rfl⟩
      have HNS := Lib.hid hns
      have hfew : ns.length ≤ 60 := by have : (namesOf d).length = d.files.length := by simp [namesOf]
                                       rw [← hns]; omega
      have hs6r : w3.heap.size < wr.heap.size := Nat.lt_of_lt_of_le hs6 hT.size
      have hs4r : w.heap.size < wr.heap.size := Nat.lt_of_lt_of_le (by omega) hT.size
      clear hbo hT hwr hx6r hx4r hns
      go_wp2_with fail
      refine (b_rlist HBO.out HNS.out).mono ?_
      rintro e w5 ⟨al, cl, rfl, hrow, hb5⟩
      have c75 := (hb5.cell (p := ⟨w3.heap.size, 0, none⟩) hs6r).trans c7
      have hs5 := hb5.size
      obtain ⟨q, hq⟩ : ∃ q, q = min m ns.length := ⟨_, rfl⟩
      have hmn : min (m : Int) (ns.length : Int) = (q : Int) := by omega
      have hw1' : IntKind.i64.wrap (m : Int) = (m : Int) := by rw [IntKind.wrap_i64]; omega
      have hql : q ≤ ns.length := by omega
      have HQ := Lib.hid hq
      have HROW := Lib.hid hrow
      have HB5 := Lib.hid hb5
      clear hq hrow hb5 c7
      go_wp2_with fail
      have y8 := heap_alloc_new w5 (.cells #[.slice al ns.length cl] 62)
      have hb8 : Below w5.heap.size w5 (w5.alloc (.cells #[.slice al ns.length cl] 62)) := (Below.refl _ _).alloc (Nat.le_refl _) _
      have hs8 : (w5.alloc (.cells #[.slice al ns.length cl] 62)).heap.size = w5.heap.size + 1 := by simp
      generalize w5.alloc (.cells #[.slice al ns.length cl] 62) = W6 at *
      have y9 := heap_alloc_new W6 (.cells #[.int .i64 (q : Int)] 3)
      have hb9 : Below W6.heap.size W6 (W6.alloc (.cells #[.int .i64 (q : Int)] 3)) := (Below.refl _ _).alloc (Nat.le_refl _) _
      have hs9 : (W6.alloc (.cells #[.int .i64 (q : Int)] 3)).heap.size = W6.heap.size + 1 := by simp
      generalize W6.alloc (.cells #[.int .i64 (q : Int)] 3) = W7 at *
      have y10 : Ctr (W7.alloc (.cells #[.int .i64 0] 3)) W7.heap.size 0 := heap_alloc_new W7 _
      have hb10 : Below W7.heap.size W7 (W7.alloc (.cells #[.int .i64 0] 3)) := (Below.refl _ _).alloc (Nat.le_refl _) _
      have hs10 : (W7.alloc (.cells #[.int .i64 0] 3)).heap.size = W7.heap.size + 1 := by simp
      generalize W7.alloc (.cells #[.int .i64 0] 3) = W8 at *
      rw [← hs8, ← hs9]
      refine (dall_any p W8).mono ?_
      rintro e w9 ⟨rfl, rfl⟩
      have hb57 : Below w5.heap.size w5 W7 := hb8.trans (hb9.mono (by omega))
      have hbr7 : Below wr.heap.size wr W7 := HB5.out.trans (hb57.mono hs5)
      have k6 : W7.cell? ⟨w3.heap.size, 0, none⟩ = some (.pointer (some ⟨r, 0, none⟩)) := (hb57.cell (p := ⟨w3.heap.size, 0, none⟩) (by show w3.heap.size < _; omega)).trans c75
      have k8 : W7.cell? ⟨w5.heap.size, 0, none⟩ = some (.slice al ns.length cl) := (hb9.cell (p := ⟨w5.heap.size, 0, none⟩) (by show w5.heap.size < _; omega)).trans (cell_of_row _ _ 0 _ _ _ y8)
      have k9 : W7.cell? ⟨W6.heap.size, 0, none⟩ = some (.int .i64 (q : Int)) := cell_of_row _ _ 0 _ _ _ y9
      have k4 : W7.heap[w.heap.size]? = some (.cells #[.bool false] 4 (0, 0)) := (hbr7.block _ hs4r).trans HX4R.out
      have HBO7 := Lib.hid (HBO.out.below hbr7)
      have HRO7 := Lib.hid (HROW.out.call hb57)
      have HBW7 := Lib.hid (HWR.out.trans (hbr7.mono (Nat.le_of_lt hs4r)))
      have l6 : w3.heap.size < W7.heap.size := by omega
      have l8 : w5.heap.size < W7.heap.size := by omega
      have l9 : W6.heap.size < W7.heap.size := by omega
      have l4 : w.heap.size < W7.heap.size := by omega
      have hrl : wr.heap.size ≤ W7.heap.size := by omega
      have hb9' : Below W8.heap.size W8 (W8.alloc (.cells #[.pointer (some ⟨p, 0, none⟩)] 54)) := (Below.refl _ _).alloc (Nat.le_refl _) _
      have x9 := heap_alloc_new W8 (.cells #[.pointer (some ⟨p, 0, none⟩)] 54)
      have hs9' : (W8.alloc (.cells #[.pointer (some ⟨p, 0, none⟩)] 54)).heap.size = W8.heap.size + 1 := by simp
      have HY10 := Lib.hid y10
      have HX9 := Lib.hid x9
      have HS10 := Lib.hid hs10
      have HB10 := Lib.hid hb10
      have HK4 := Lib.hid k4
      clear y8 y9 y10 hb8 hb9 hb10 hs8 hs9 hs10 x9 k4 hb57 hbr7 c75
      go_wp2_with fail
      generalize W8.alloc (.cells #[.pointer (some ⟨p, 0, none⟩)] 54) = W9 at *
      have HS9 := Lib.hid hs9'
      obtain ⟨fq7, hr7, ⟨⟨fp, ⟨mb, fv, hraw7⟩, hfp⟩, hks, hkB⟩, hq7⟩ := HBO7.out
      have hd7 : DiskMb W7 fp p mb d := ⟨fv, hraw7⟩
      have hb79 : Below W7.heap.size W7 W9 := HB10.out.trans (hb9'.mono (by have := HS10.out; omega))
      have hd9 : DiskMb W9 fp p mb d := hd7.below hb79
      have hml : mb < W7.heap.size := hraw7.map.lt
      have hfl : ∀ k, fp k → k < W7.heap.size := hd7.at.lt
      have hs79 : W9.heap.size = W7.heap.size + 2 := by have := HS10.out; have := HS9.out; omega
      have hx9c : W9.cell? ⟨W8.heap.size, 0, none⟩ = some (.pointer (some ⟨p, 0, none⟩)) := cell_of_row _ _ 0 _ _ _ HX9.out
      have hc9 : Ctr W9 W7.heap.size 0 := (hb9'.block _ (by have := HS10.out; omega)).trans HY10.out
      have HD9 := Lib.hid hd9
      have HD7 := Lib.hid hd7
      have HB79 := Lib.hid hb79
      have HML := Lib.hid hml
      have HFL := Lib.hid hfl
      have HS79 := Lib.hid hs79
      have HC9 := Lib.hid hc9
      have HX9C := Lib.hid hx9c
      clear hr7 hraw7 hd7 hb79 hd9 hml hfl hs79 hc9 hx9c hfp hks hkB hq7 hb9' hs9'
      refine (wpIn_wide (n := 6)).1 ?_
      refine wpIn_range_ok rfl (by omega) (gf := 95) (lb := #[.pointer (some ⟨W8.heap.size, 0, none⟩)]) rfl trivial (enters_of Try.func95 (by kernel_rfl) rfl)
        (dall_stops _ (by omega) W8.heap.size W9.heap.size p mb (fun k => k = W7.heap.size) ns W9 HX9C.out (by have := HS10.out; omega) (Nat.le_refl _) (fun k hk => by have := HS79.out; omega) fp d HD9.out HNS.out (fun hf => by have := HFL.out _ hf; have := HS10.out; omega) (by have := HS10.out; have := HS79.out; omega))
        (fun h k => h.trans k) (fun W l o o' hl hw ho => DKp.turn (by have := HML.out; have := HS79.out; omega) W l o o' hl hw ho) (fun pre x W l o o' hk hl hw ho => hk.putObj (by have := HML.out; have := HS79.out; omega) hl hw ho) (Below.refl _ _) (fun _ => rfl)
        (fun pre U => Ctr U W7.heap.size pre.length ∧ Below W7.heap.size W7 U ∧ pre.length ≤ q)
        (fun c _ U => c = Code.exit 2 ∧ Ctr U W7.heap.size q ∧ Below W7.heap.size W7 U)
        (fun s A Bw row hs hg hr => ⟨(grownBy_keeps_cells hg (fun r e => (hr r e).2) hs.1 rfl).trans hs.1, hs.2.1.grown hg hs.2.1.size (fun k e => by have := (hr k e).1; have := HS79.out; omega), hs.2.2⟩)
        (fun c s A Bw row hs hg hr => ⟨hs.1, (grownBy_keeps_cells hg (fun r e => (hr r e).2) hs.2.1 rfl).trans hs.2.1, hs.2.2.grown hg hs.2.2.size (fun k e => by have := (hr k e).1; have := HS79.out; omega)⟩)
        ⟨HC9.out, HB79.out, Nat.zero_le _⟩
        ?_ ?_ ?_ ?_ ?_
      case refine_2 =>
        intro l x U K hK
        simp only [DRec.encs]
        gi_wp2
        exact hK
      case refine_3 =>
        rintro l pre x U ⟨hctr, hbU, hpq⟩ hkok
        obtain ⟨hpre, hox, fpx, dx, hdx, hnx, hbx, hax⟩ := hkok
        have hname : ns[pre.length]? = some x.name := by
          obtain ⟨rest, hr⟩ := hpre
          rw [← hr, List.append_assoc, List.getElem?_append_right (by simp)]
          simp
        have hplt : pre.length < ns.length := (List.getElem?_eq_some_iff.1 hname).1
        have hu := hbU.size
        have u9 : U.cell? ⟨W6.heap.size, 0, none⟩ = some (.int .i64 (q : Int)) := (hbU.cell (p := ⟨W6.heap.size, 0, none⟩) l9).trans k9
        have u10 : U.cell? ⟨W7.heap.size, 0, none⟩ = some (.int .i64 (pre.length : Int)) := hctr.box.1
        by_cases hqe : pre.length = q
        · have hqe' : ((pre.length : Int) == (q : Int)) = true := by rw [beq_iff_eq]; omega
          have hctr' : Ctr U W7.heap.size q := hqe ▸ hctr
          clear hqe hpre hox hdx hnx hbx hax hname
          gi_wp2_with fail
          exact ⟨KeepsFrom.refl _ _, rfl, hctr', hbU⟩
        have hqe' : ((pre.length : Int) == (q : Int)) = false := by rw [beq_eq_false_iff_ne]; omega
        obtain ⟨g, rfl, hgB, hgl, hgc⟩ := HRO7.out.at_ (j := pre.length) (x := encStr x.name) (by unfold strs; rw [List.getElem?_map, hname]; rfl)
        have hxin : (DiskM.look x.name d.files).isSome = true := (names_some HD9.out.at.ok).2 (by rw [HNS.out]; exact List.mem_of_getElem? hname)
        have hxl : x.name.length ≤ 16 := name_le HD9.out.at.ok hxin
        have hbs : x.bs = (DiskM.old d x.name).1 := by
          rw [hbx, disk_same hdx (HD7.out.below hbU) x.name (by omega)]
        have HBS := Lib.hid hbs
        have hxb : x.bs.length ≤ 16777216 := by rw [hbs]; exact Nat.le_trans (old_used HD9.out.at.ok _) HD9.out.at.ok.used
        have HF : Hid (∀ W, Below U.heap.size U W → W.cell? ⟨w3.heap.size, 0, none⟩ = some (.pointer (some ⟨r, 0, none⟩)) ∧ W.cell? ⟨w5.heap.size, 0, none⟩ = some (.slice (some ⟨g, 0, none⟩) ns.length cl) ∧ W.cell? ⟨W6.heap.size, 0, none⟩ = some (.int .i64 (q : Int)) ∧ W.cell? ⟨W7.heap.size, 0, none⟩ = some (.int .i64 (pre.length : Int)) ∧ W.cell? ⟨g, pre.length, none⟩ = some (.string ⟨x.name.toArray⟩) ∧ Both W w1.heap.size (fun j => j = w3.heap.size) p r d ∧ Rd W W.heap.size x.a x.bs) := Lib.hid fun W hW => by
          refine ⟨((hW.cell (p := ⟨w3.heap.size, 0, none⟩) (by show w3.heap.size < _; omega)).trans (hbU.cell (p := ⟨w3.heap.size, 0, none⟩) l6)).trans k6, ((hW.cell (p := ⟨w5.heap.size, 0, none⟩) (by show w5.heap.size < _; omega)).trans (hbU.cell (p := ⟨w5.heap.size, 0, none⟩) l8)).trans k8, ((hW.cell (p := ⟨W6.heap.size, 0, none⟩) (by show W6.heap.size < _; omega)).trans u9), ?_, ((hW.cell (p := ⟨g, pre.length, none⟩) (by show g < _; omega)).trans (hbU.cell (p := ⟨g, pre.length, none⟩) hgl)).trans hgc, (HBO7.out.below hbU).below hW, hox.rd.step hW⟩
          exact (hW.cell (p := ⟨W7.heap.size, 0, none⟩) (block_lt_of_cell hctr.box.1)).trans hctr.box.1
        have hlt' : (pre.length : Int) < (ns.length : Int) := by omega
        have HCT := Lib.hid hctr
        have HBU := Lib.hid hbU
        have HOX := Lib.hid hox
        have HDX := Lib.hid hdx
        have HAX := Lib.hid hax
        have hpq' : pre.length + 1 ≤ q := by omega
        clear hctr hbU hpre hox hdx hnx hbx hax hname hgB hgl hgc hxin hxl hbs hqe
        gi_wp2_with fail
        refine wpIn_region_flat_round (by kernel_rfl) (fun W => Below U.heap.size U W) (fun _ _ h h' => Below.next0 h h') (detV [.string ⟨x.name.toArray⟩, .slice (some ⟨g, 0, none⟩) ns.length cl, .int .i64 (pre.length : Int), .pointer (some ⟨g, pre.length, none⟩), .string ⟨x.name.toArray⟩, .bool false, .bool false, .slice x.a x.bs.length x.c, .string ⟨x.bs.toArray⟩, .pointer (some ⟨r, 0, none⟩), .string ⟨x.name.toArray⟩, undef, .string ⟨x.bs.toArray⟩, .bool false, .bool false] (fun i => if i = 11 then some (ownV U.heap.size (DiskM.old d x.name).1.length (DiskM.old d x.name).1) else none))
          (detV_grow fun i φ h => by
            by_cases h17 : i = 11
            · rw [if_pos h17] at h; injection h with h; subst h; exact fun _ _ _ h h' => ownV_grow h h'
            · rw [if_neg h17] at h; cases h) (by kernel_rfl) (Below.refl _ _).drew ?_ ?_
        · skip
          refine ⟨fun a W hW hag hdep => ?_, ?_⟩
          · have e11 : a.tmps[11]?.getD undef = .string ⟨x.name.toArray⟩ := evalD (hag.keep (t := 11) (by kernel_rfl) rfl)
            refine flat_on rfl ?_
            refine flat_run (u := .string ⟨x.name.toArray⟩) ?_ ((detV_at rfl).2 rfl)
            simp [go_sem, e11]
          refine ⟨fun a W hW hag hdep => ?_, ?_⟩
          · have e8 : a.tmps[8]?.getD undef = .pointer (some ⟨w5.heap.size, 0, none⟩) := evalD (hag.keep (t := 8) (by kernel_rfl) rfl)
            refine flat_on rfl ?_
            obtain ⟨f6, f8, f9, f10, fg, fb, fr⟩ := HF.out W hW
            refine flat_run (u := .slice (some ⟨g, 0, none⟩) ns.length cl) ?_ ((detV_at rfl).2 rfl)
            simp [go_sem, e8, f8]
          refine ⟨fun a W hW hag hdep => ?_, ?_⟩
          · have e10 : a.tmps[10]?.getD undef = .pointer (some ⟨W7.heap.size, 0, none⟩) := evalD (hag.keep (t := 10) (by kernel_rfl) rfl)
            refine flat_on rfl ?_
            obtain ⟨f6, f8, f9, f10, fg, fb, fr⟩ := HF.out W hW
            refine flat_run (u := .int .i64 (pre.length : Int)) ?_ ((detV_at rfl).2 rfl)
            simp [go_sem, e10, f10]
          refine ⟨fun a W hW hag hdep => ?_, ?_⟩
          · have e56 : a.tmps[56]?.getD undef = .slice (some ⟨g, 0, none⟩) ns.length cl := evalD ((detV_at rfl).1 (hdep 1 (by decide)))
            have e57 : a.tmps[57]?.getD undef = .int .i64 (pre.length : Int) := evalD ((detV_at rfl).1 (hdep 2 (by decide)))
            refine flat_on rfl ?_
            obtain ⟨f6, f8, f9, f10, fg, fb, fr⟩ := HF.out W hW
            refine flat_run (u := .pointer (some ⟨g, pre.length, none⟩)) ?_ ((detV_at rfl).2 rfl)
            simp [go_sem, e56, e57, hlt']
          refine ⟨fun a W hW hag hdep => ?_, ?_⟩
          · have e58 : a.tmps[58]?.getD undef = .pointer (some ⟨g, pre.length, none⟩) := evalD ((detV_at rfl).1 (hdep 3 (by decide)))
            refine flat_on rfl ?_
            obtain ⟨f6, f8, f9, f10, fg, fb, fr⟩ := HF.out W hW
            refine flat_run (u := .string ⟨x.name.toArray⟩) ?_ ((detV_at rfl).2 rfl)
            simp [go_sem, e58, fg]
          refine ⟨fun a W hW hag hdep => ?_, ?_⟩
          · have e55 : a.tmps[55]?.getD undef = .string ⟨x.name.toArray⟩ := evalD ((detV_at rfl).1 (hdep 0 (by decide)))
            have e59 : a.tmps[59]?.getD undef = .string ⟨x.name.toArray⟩ := evalD ((detV_at rfl).1 (hdep 4 (by decide)))
            refine flat_on rfl ?_
            refine flat_run (u := .bool false) ?_ ((detV_at rfl).2 rfl)
            simp [go_sem, e55, e59]
          refine ⟨fun a W hW hag hdep => ?_, ?_⟩
          · have e60 : a.tmps[60]?.getD undef = .bool false := evalD ((detV_at rfl).1 (hdep 5 (by decide)))
            refine flat_on rfl ?_
            refine flat_run (u := .bool false) ?_ ((detV_at rfl).2 rfl)
            simp [go_sem, e60]
          refine ⟨fun a W hW hag hdep => ?_, ?_⟩
          · have e12 : a.tmps[12]?.getD undef = .slice x.a x.bs.length x.c := evalD (hag.keep (t := 12) (by kernel_rfl) rfl)
            have eg : a.eval (.tmp 61) = .bool false := (detV_at rfl).1 (hdep 6 (by decide))
            refine flat_go (t := 61) rfl rfl eg ?_
            refine flat_run (u := .slice x.a x.bs.length x.c) ?_ ((detV_at rfl).2 rfl)
            simp [go_sem, e12]
          refine ⟨fun a W hW hag hdep => ?_, ?_⟩
          · have e62 : a.tmps[62]?.getD undef = .slice x.a x.bs.length x.c := evalD ((detV_at rfl).1 (hdep 7 (by decide)))
            have eg : a.eval (.tmp 61) = .bool false := (detV_at rfl).1 (hdep 6 (by decide))
            refine flat_go (t := 61) rfl rfl eg ?_
            obtain ⟨f6, f8, f9, f10, fg, fb, fr⟩ := HF.out W hW
            have hst := run_string_b W W.heap.size x.a x.bs.length x.c x.bs fr rfl
            refine flat_run (u := .string ⟨x.bs.toArray⟩) ?_ ((detV_at rfl).2 rfl)
            simp [go_sem, e62, hst]
          refine ⟨fun a W hW hag hdep => ?_, ?_⟩
          · have e6 : a.tmps[6]?.getD undef = .pointer (some ⟨w3.heap.size, 0, none⟩) := evalD (hag.keep (t := 6) (by kernel_rfl) rfl)
            have eg : a.eval (.tmp 61) = .bool false := (detV_at rfl).1 (hdep 6 (by decide))
            refine flat_go (t := 61) rfl rfl eg ?_
            obtain ⟨f6, f8, f9, f10, fg, fb, fr⟩ := HF.out W hW
            refine flat_run (u := .pointer (some ⟨r, 0, none⟩)) ?_ ((detV_at rfl).2 rfl)
            simp [go_sem, e6, f6]
          refine ⟨fun a W hW hag hdep => ?_, ?_⟩
          · have e11 : a.tmps[11]?.getD undef = .string ⟨x.name.toArray⟩ := evalD (hag.keep (t := 11) (by kernel_rfl) rfl)
            have eg : a.eval (.tmp 61) = .bool false := (detV_at rfl).1 (hdep 6 (by decide))
            refine flat_go (t := 61) rfl rfl eg ?_
            refine flat_run (u := .string ⟨x.name.toArray⟩) ?_ ((detV_at rfl).2 rfl)
            simp [go_sem, e11]
          refine ⟨fun a W hW hag hdep => ?_, ?_⟩
          · have e64 : a.tmps[64]?.getD undef = .pointer (some ⟨r, 0, none⟩) := evalD ((detV_at rfl).1 (hdep 9 (by decide)))
            have e65 : a.tmps[65]?.getD undef = .string ⟨x.name.toArray⟩ := evalD ((detV_at rfl).1 (hdep 10 (by decide)))
            have eg : a.eval (.tmp 61) = .bool false := (detV_at rfl).1 (hdep 6 (by decide))
            refine flat_go (t := 61) rfl rfl eg ?_
            obtain ⟨f6, f8, f9, f10, fg, fb, fr⟩ := HF.out W hW
            refine flat_call (f := 52) (args := #[.pointer (some ⟨r, 0, none⟩), .string ⟨x.name.toArray⟩]) (by simp [go_sem, e64, e65]) ((b_rbytes fb ⟨x.name.toArray⟩).mono ?_)
            rintro e W' ⟨a4, c4, rfl, ho4, hb4⟩
            refine ⟨_, rfl, hb4, (detV_some rfl).2 ⟨a4, c4, rfl, ?_⟩⟩
            exact ho4.lower (Below.size hW)
          refine ⟨fun a W hW hag hdep => ?_, ?_⟩
          · have eg : a.eval (.tmp 61) = .bool false := (detV_at rfl).1 (hdep 6 (by decide))
            refine flat_go (t := 61) rfl rfl eg ?_
            obtain ⟨a4, c4, e66, ho4⟩ := (detV_some rfl).1 (hdep 11 (by decide))
            have e66' : a.tmps[66]?.getD undef = .slice a4 (DiskM.old d x.name).1.length c4 := evalD e66
            have hst := run_string_b W W.heap.size a4 (DiskM.old d x.name).1.length c4 (DiskM.old d x.name).1 ho4.rd rfl
            rw [← HBS.out] at hst e66'
            refine flat_run (u := .string ⟨x.bs.toArray⟩) ?_ ((detV_at rfl).2 rfl)
            simp [go_sem, e66', hst]
          refine ⟨fun a W hW hag hdep => ?_, ?_⟩
          · have e63 : a.tmps[63]?.getD undef = .string ⟨x.bs.toArray⟩ := evalD ((detV_at rfl).1 (hdep 8 (by decide)))
            have e67 : a.tmps[67]?.getD undef = .string ⟨x.bs.toArray⟩ := evalD ((detV_at rfl).1 (hdep 12 (by decide)))
            have eg : a.eval (.tmp 61) = .bool false := (detV_at rfl).1 (hdep 6 (by decide))
            refine flat_go (t := 61) rfl rfl eg ?_
            refine flat_run (u := .bool false) ?_ ((detV_at rfl).2 rfl)
            simp [go_sem, e63, e67]
          refine ⟨fun a W hW hag hdep => ?_, ?_⟩
          · have e61 : a.tmps[61]?.getD undef = .bool false := evalD ((detV_at rfl).1 (hdep 6 (by decide)))
            have e68 : a.tmps[68]?.getD undef = .bool false := evalD ((detV_at rfl).1 (hdep 13 (by decide)))
            refine flat_on rfl ?_
            refine flat_run (u := .bool false) ?_ ((detV_at rfl).2 rfl)
            simp [go_sem, e61, e68]
          exact trivial
        intro vs W hW hvs
        have h14 : vs 14 = .bool false := (detV_at rfl).1 (hvs 14 (by decide))
        simp only [putAll, Act.put, List.setIfInBounds_toArray, List.set_cons_zero, List.set_cons_succ]
        rw [h14]
        have hW : Below U.heap.size U W := hW
        have hcW : Ctr W W7.heap.size pre.length := (hW.block _ (block_lt_of_cell HCT.out.box.1)).trans HCT.out
        have hoW : Own W W9.heap.size x.a x.bs.length x.c x.bs := HOX.out.call hW
        have hdW : DiskMb W fpx p mb dx := HDX.out.below hW
        have HCW := Lib.hid hcW
        have HOW := Lib.hid hoW
        have HDW := Lib.hid hdW
        have HKW : Hid (KeepsFrom W9.heap.size U W ∧ DKp (fun j => j = W7.heap.size) W9.heap.size p mb ns U W) := Lib.hid ⟨KeepsFrom.of_grownBy (row := none) (grown_below hW none) (fun j e => by cases e), DKp.below hW⟩
        have HBW := Lib.hid (HBU.out.trans (hW.mono HBU.out.size))
        clear hvs h14 hW hcW hoW hdW u9 u10
        gi_wp2_with fail
        gi_loopw [13] (fun v wr => ∃ (j : Nat) (bs : List UInt8), v = .int .i64 j ∧ j ≤ x.bs.length ∧ Own wr W9.heap.size x.a x.bs.length x.c bs ∧ Ctr wr W7.heap.size pre.length ∧ DiskMb wr fpx p mb dx ∧ KeepsFrom W9.heap.size U wr ∧ DKp (fun j => j = W7.heap.size) W9.heap.size p mb ns U wr ∧ Below W7.heap.size W7 wr) (fun v _ => x.bs.length - (intOf v).toNat)
        case atStart => exact ⟨0, x.bs, rfl, Nat.zero_le _, HOW.out, HCW.out, HDW.out, HKW.out.1, HKW.out.2, HBW.out⟩
        case round =>
          obtain ⟨j, bs, rfl, hj, ho, hct, hdm, hkf, hkp, hbw⟩ := hrel
          by_cases hjl : j < x.bs.length
          · obtain ⟨g4, hx4, hgB4, hgl4⟩ := ho.at_ (by omega)
            have hax4 : ¬ fpx g4 := HAX.out ⟨g4, 0, none⟩ hx4
            rw [hx4] at ho
            obtain ⟨y, hy⟩ : ∃ y, bs[j]? = some y := ⟨_, List.getElem?_eq_getElem (by rw [ho.len]; exact hjl)⟩
            have hcell := ho.cell hy
            have hfr := ho.frozen j
            have hjl' : (j : Int) < (x.bs.length : Int) := by omega
            have hst := ho.store (i := j) 1
            have hbyte := byte_round (Bx := W9.heap.size) (v := .int .u8 1) (S := fun j => j = W7.heap.size) (ns := ns) ho hdm hax4 j
            have hct2 : Ctr (wr.setCell ⟨g4, j, none⟩ (.int .u8 1)) W7.heap.size pre.length := (Below.heap_setCell _ _ _ _ (by show W7.heap.size ≠ g4; have := HS79.out; omega)).trans hct
            have HST := Lib.hid hst
            have HBYTE := Lib.hid hbyte
            have HCT2 := Lib.hid hct2
            have HKF := Lib.hid hkf
            have HKP := Lib.hid hkp
            have HBW2 := Lib.hid (hbw.setCell (p := ⟨g4, j, none⟩) (by show W7.heap.size ≤ g4; have := HS79.out; omega) (.int .u8 1))
            clear hst hbyte hct2 hkf hkp hbw hct hdm ho hy
            gi_wp2_with fail
            go_roundw
            case rel => exact ⟨j + 1, _, by go_num, by omega, by rw [hx4]; exact HST.out, HCT2.out, HBYTE.out.2.2, HKF.out.trans HBYTE.out.1, HKP.out.trans HBYTE.out.2.1, HBW2.out⟩
            case measure => simp [intOf]; omega
          · have hjl' : ¬ ((j : Int) < (x.bs.length : Int)) := by omega
            have hc10 := hct.box.1
            have hf10 := hct.box.2
            obtain ⟨e1, e2, e3⟩ := ctr_round (Bx := W9.heap.size) (p := p) (mb := mb) (ns := ns) (Below.refl wr.heap.size wr) hct (by have := HML.out; omega)
            have HE := Lib.hid (And.intro (hkf.trans e1) (And.intro (hkp.trans e2) e3))
            have HB3 := Lib.hid (hbw.setCell (p := ⟨W7.heap.size, 0, none⟩) (Nat.le_refl _) (.int .i64 ((pre.length : Int) + 1)))
            clear hct hkf hkp hbw e1 e2 e3 ho hdm
            gi_wp2_with fail
            exact ⟨HE.out.1, HE.out.2.1, by rw [List.length_append]; exact HE.out.2.2, HB3.out, by rw [List.length_append]; exact hpq'⟩
      case refine_4 =>
        rintro D ys U hD hys ⟨hctr, hbU, hpq⟩ hK
        have hyl : ys.length = q := by
          have h1 : ys.length = ns.length := by rw [← hys]; simp
          omega
        rw [hyl] at hctr
        clear hyl hys hpq
        have u10 : U.cell? ⟨W7.heap.size, 0, none⟩ = some (.int .i64 (q : Int)) := hctr.box.1
        have u9 : U.cell? ⟨W6.heap.size, 0, none⟩ = some (.int .i64 (q : Int)) := (hbU.cell (p := ⟨W6.heap.size, 0, none⟩) l9).trans k9
        have u6 : U.cell? ⟨w3.heap.size, 0, none⟩ = some (.pointer (some ⟨r, 0, none⟩)) := (hbU.cell (p := ⟨w3.heap.size, 0, none⟩) l6).trans k6
        have hx4 := (hbU.block w.heap.size l4).trans HK4.out
        have hul : w.heap.size < U.heap.size := Nat.lt_of_lt_of_le l4 hbU.size
        have HBU := Lib.hid (HBO7.out.below hbU)
        have HX4U := Lib.hid hx4
        have HWU := Lib.hid (HBW7.out.trans (hbU.mono (Nat.le_of_lt l4)))
        have HKK := Lib.hid hK
        have hdl : D < U.heap.size := (Array.getElem?_eq_some_iff.1 hK).1
        have hDw : w.heap.size ≤ D := by have := HS79.out; omega
        clear hctr hx4 hK k6 k8 k9 hbU
        go_wp2_with fail
        refine (files_any HBU.out).mono ?_
        rintro e U2 ⟨rfl, hb2⟩
        have hx42 := (hb2.block _ hul).trans HX4U.out
        have hc4 : U2.cell? ⟨w.heap.size, 0, none⟩ = some (.bool false) := cell_of_row _ _ 0 _ _ _ hx42
        have hf4 : U2.frozen? ⟨w.heap.size, 0, none⟩ = false := frozen_of_row _ _ 0 _ _ hx42
        have HKK2 := Lib.hid ((hb2.block _ hdl).trans HKK.out)
        have HWU2 := Lib.hid (Below.next0 HWU.out hb2)
        clear hx42 hb2
        go_wp2_with fail
        have hK' := (KeepsOthers.setCell U2 ⟨w.heap.size, 0, none⟩ (.bool true)).same D _ HKK2.out rfl
        refine ⟨by simp, .inl ⟨_, _, rfl, run_takeDeferred hK', ?_⟩⟩
        have hc9 := cell_kept (World.cell?_setCell_same' U2 ⟨w.heap.size, 0, none⟩ (.bool true) (by rw [hc4]; rfl)) (grownBy_putObj' _ D (.deferred none)) (fun r e => by cases e; exact ⟨_, hK', rfl⟩)
        refine ⟨.bool true, ?_, rfl, (HWU2.out.setCell (p := ⟨w.heap.size, 0, none⟩) (Nat.le_refl _) _).trans (belowK_b (w := w) (Nat.le_refl _) _ D _ _ hDw hK' rfl rfl)⟩
        simp [results, go_sem, hc9]
      case refine_5 =>
        rintro D c pre U hD _ ⟨rfl, hctr, hbU⟩ hK
        refine wpIn_wide.2 ?_
        have u10 : U.cell? ⟨W7.heap.size, 0, none⟩ = some (.int .i64 (q : Int)) := hctr.box.1
        have u9 : U.cell? ⟨W6.heap.size, 0, none⟩ = some (.int .i64 (q : Int)) := (hbU.cell (p := ⟨W6.heap.size, 0, none⟩) l9).trans k9
        have u6 : U.cell? ⟨w3.heap.size, 0, none⟩ = some (.pointer (some ⟨r, 0, none⟩)) := (hbU.cell (p := ⟨w3.heap.size, 0, none⟩) l6).trans k6
        have hx4 := (hbU.block w.heap.size l4).trans HK4.out
        have hul : w.heap.size < U.heap.size := Nat.lt_of_lt_of_le l4 hbU.size
        have HBU := Lib.hid (HBO7.out.below hbU)
        have HX4U := Lib.hid hx4
        have HWU := Lib.hid (HBW7.out.trans (hbU.mono (Nat.le_of_lt l4)))
        have HKK := Lib.hid hK
        have hdl : D < U.heap.size := (Array.getElem?_eq_some_iff.1 hK).1
        have hDw : w.heap.size ≤ D := by have := HS79.out; omega
        clear hctr hx4 hK k6 k8 k9 hbU
        go_wp2_with fail
        refine (files_any HBU.out).mono ?_
        rintro e U2 ⟨rfl, hb2⟩
        have hx42 := (hb2.block _ hul).trans HX4U.out
        have hc4 : U2.cell? ⟨w.heap.size, 0, none⟩ = some (.bool false) := cell_of_row _ _ 0 _ _ _ hx42
        have hf4 : U2.frozen? ⟨w.heap.size, 0, none⟩ = false := frozen_of_row _ _ 0 _ _ hx42
        have HKK2 := Lib.hid ((hb2.block _ hdl).trans HKK.out)
        have HWU2 := Lib.hid (Below.next0 HWU.out hb2)
        clear hx42 hb2
        go_wp2_with fail
        have hK' := (KeepsOthers.setCell U2 ⟨w.heap.size, 0, none⟩ (.bool true)).same D _ HKK2.out rfl
        refine ⟨by simp, .inl ⟨_, _, rfl, run_takeDeferred hK', ?_⟩⟩
        have hc9 := cell_kept (World.cell?_setCell_same' U2 ⟨w.heap.size, 0, none⟩ (.bool true) (by rw [hc4]; rfl)) (grownBy_putObj' _ D (.deferred none)) (fun r e => by cases e; exact ⟨_, hK', rfl⟩)
        refine ⟨.bool true, ?_, rfl, (HWU2.out.setCell (p := ⟨w.heap.size, 0, none⟩) (Nat.le_refl _) _).trans (belowK_b (w := w) (Nat.le_refl _) _ D _ _ hDw hK' rfl rfl)⟩
        simp [results, go_sem, hc9]
end Go.Proofs.Ytopnhplacdbkdaa
