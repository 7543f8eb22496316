/- The walk of the statement SnapPlays. Condition: the acts lie in memory. -/
import Derived.Test.YtopnhplacdbkdaaGreatLight25
namespace Go.Proofs.YtopnhplacdbkdaaGreat
open Go.RowKit DiskM Go.Shelf

set_option maxRecDepth 100000 in
set_option maxHeartbeats 8000000 in
theorem walkSnapPlays (room : Int) (a : Option Addr) (n c : Nat) (xs : List Act25) (w : World) (_hr0 : -9223372036854775808 ≤ room) (_hr1 : room ≤ 9223372036854775807) (hn : xs.length = n) (hmx : n ≤ 9223372036854775807) (h : RdE w w.heap.size a xs) :
    Calls Tryz.prog 3 #[.int .i64 room, .slice a n c] w fun e w' => e = .returned (.bool true) ∧ Below w.heap.size w w' := by
  have H := Lib.hid h
  have HN := Lib.hid hn
  clear h hn _hr0 _hr1
  go_enter Tryz.func3, Tryz.ntmps3
  go_wp2_with fail
  refine (snapknown_any _).mono ?_
  rintro e w1 ⟨rfl, hb1⟩
  have HB1 := Lib.hid hb1
  clear hb1
  go_wp2_with fail
  have hrd1 := H.out.below HB1.out
  refine (light25_any w1 a n c xs HN.out hmx hrd1).mono ?_
  rintro e w' ⟨rfl, rfl⟩
  by_cases hl : lightE xs = true
  rotate_left
  · have hl' : lightE xs = false := by simpa using hl
    rw [hl']
    clear hl hl' hrd1
    go_wp2_with fail
    go_ret
    exact ⟨rfl, HB1.out⟩
  have hn40 : n ≤ 40 := by
    unfold lightE at hl
    simp only [Bool.and_eq_true, decide_eq_true_eq] at hl
    rw [← HN.out]; exact hl.1
  have hall : ∀ x ∈ xs, light5 x = true := by
    unfold lightE at hl
    simp only [Bool.and_eq_true, List.all_eq_true] at hl
    exact hl.2
  have HALL := Lib.hid hall
  have HRD1 := Lib.hid hrd1
  rw [hl]
  clear hl hall hrd1
  go_wp2_with fail
  refine (new_k room w1 w1.heap.size (fun _ => False) (Nat.le_refl _) (fun k h => h.elim)).mono ?_
  rintro e w2 ⟨p, rfl, hk2, hb2⟩
  have HK2 := Lib.hid hk2
  have HB2 := Lib.hid hb2
  clear hk2 hb2
  go_wp2_with fail
  refine (refnew_any room w2).mono ?_
  rintro e w3 ⟨r, fq, rfl, hr3, hq3, hb3⟩
  have hboth3 : Both w3 w1.heap.size (fun _ => False) p r (fresh room) := ⟨fq, hr3, HK2.out.more hb3 (fun k hk => by
    rcases hk with hk | hk
    · exact .inr ⟨hq3 k hk, hr3.lt k hk⟩
    · exact hk.elim), fun k hk => ⟨by have := hq3 k hk; have := HB2.out.size; omega, fun h => h⟩⟩
  have hb13 : Below w1.heap.size w1 w3 := HB2.out.trans (hb3.mono HB2.out.size)
  have HBO3 := Lib.hid hboth3
  have HB13 := Lib.hid hb13
  have hs1 : w.heap.size ≤ w1.heap.size := HB1.out.size
  have hs13 : w1.heap.size ≤ w3.heap.size := hb13.size
  have HW3 := Lib.hid (HB1.out.trans (hb13.mono hs1))
  clear hr3 hq3 hb3 hboth3 hb13
  go_wp2_with fail
  go_loopw [7] (fun v wr => ∃ (k : Nat) (d : DS), v = .int .i64 k ∧ k ≤ n ∧ Both wr w1.heap.size (fun _ => False) p r d ∧ d.files.length ≤ 4 * k ∧ Turn (off w1.heap.size fun _ => False) w3 wr) (fun v _ => n - (intOf v).toNat)
  case atStart => exact ⟨0, fresh room, rfl, Nat.zero_le _, HBO3.out, Nat.le_refl _, Turn.refl _ _⟩
  case round =>
    obtain ⟨k, d, rfl, hk, hbo, hdl, hT⟩ := hrel
    have hwr : Below w.heap.size w wr := Below.turn HW3.out hT HW3.out.size fun j hj => by have := hj.1; omega
    have HBO := Lib.hid hbo
    have HT := Lib.hid hT
    have HWR := Lib.hid hwr
    by_cases hlt : k < n
    · obtain ⟨x, hx⟩ : ∃ x, xs[k]? = some x := ⟨_, List.getElem?_eq_getElem (by rw [HN.out]; exact hlt)⟩
      obtain ⟨b, o, rfl, hbl, hc, hok⟩ := (H.out.below hwr).at_ hx
      have c0 : wr.cell? ⟨b, o + k * 5, none⟩ = some (.int .u8 (x.kind : Int)) := hc 0 _ rfl
      have c1 : wr.cell? ⟨b, o + k * 5 + 1, none⟩ = some (.string x.nm) := hc 1 _ rfl
      have c2 : wr.cell? ⟨b, o + k * 5 + 2, none⟩ = some (.slice x.a x.n x.c) := hc 2 _ rfl
      have c3 : wr.cell? ⟨b, o + k * 5 + 3, none⟩ = some (.int .i64 x.num) := hc 3 _ rfl
      have c4 : wr.cell? ⟨b, o + k * 5 + 4, none⟩ = some (.bool x.done) := hc 4 _ rfl
      have hlt' : (k : Int) < (n : Int) := by omega
      have hfine : x.Fine wr w1.heap.size := (hok.fine (HALL.out x (List.mem_of_getElem? hx))).up hs1
      have HFINE := Lib.hid hfine
      clear hc hok hfine hx hbo hT hwr
      go_wp2_with fail
      refine (do25_any HBO.out x HFINE.out (by omega)).mono ?_
      rintro e w5 ⟨rfl, dn, hbo5, ht5, hl5⟩
      have HBO5 := Lib.hid hbo5
      have HT5 := Lib.hid ht5
      clear hbo5 ht5 c0 c1 c2 c3 c4
      go_wp2_with fail
      refine (files_any HBO5.out).mono ?_
      rintro e w6 ⟨rfl, hb6⟩
      have HB6 := Lib.hid hb6
      clear hb6
      go_wp2_with fail
      go_roundw
      case rel => exact ⟨k + 1, dn, by go_num, by omega, HBO5.out.below HB6.out, by omega, (HT.out.trans0 HT5.out).trans0 (Turn.of_below HB6.out _)⟩
      case measure => simp [intOf]; omega
    · obtain rfl : n = k := by omega
      clear hbo hT hwr
      go_wp2_with fail
      go_ret
      exact ⟨rfl, HWR.out⟩
end Go.Proofs.YtopnhplacdbkdaaGreat
