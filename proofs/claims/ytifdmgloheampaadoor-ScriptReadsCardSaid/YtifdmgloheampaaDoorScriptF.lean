/- The walk of the library's FormatUint at base 16. Condition: a number below 2^32; the world is laid. -/
import Derived.Test.YtifdmgloheampaaDoorScriptE
namespace Go.Proofs.YtifdmgloheampaaDoor
open Go.RowKit DiskM ScriptM

set_option maxRecDepth 100000 in
theorem tz64 (w : World) (hl : Laid w) : Calls Tryd.prog 94 #[.int .u64 16] w fun e w' => e = .returned (.int .i64 4) ∧ w = w' := by
  have hb := hl.bru
  clear hl
  have e1 : IntKind.u64.wrap (bits BinOp.and IntKind.u64 16 (IntKind.u64.wrap (-16)) * 285870213051353865) / 288230376151711744 = 15 := by decide +kernel
  go_enter Tryd.func94, Tryd.ntmps94
  go_wp2_with fail
  go_ret
  exact ⟨rfl, rfl⟩
set_option maxRecDepth 100000 in
theorem tz16 (w : World) (hl : Laid w) : Calls Tryd.prog 80 #[.int .u64 16] w fun e w' => e = .returned (.int .i64 4) ∧ w = w' := by
  have HL := Lib.hid hl
  clear hl
  go_enter Tryd.func80, Tryd.ntmps80
  go_wp2_with (refine (tz64 _ HL.out).mono ?_; rintro e w' ⟨rfl, rfl⟩)
  go_ret
  exact ⟨rfl, rfl⟩
set_option maxRecDepth 100000 in
theorem pow16 (w : World) : Calls Tryd.prog 79 #[.int .i64 16] w fun e w' => e = .returned (.bool true) ∧ w = w' := by
  go_enter Tryd.func79, Tryd.ntmps79
  go_wp2_with fail
  go_ret
  exact ⟨rfl, rfl⟩
def digS : ByteArray := ⟨#[48, 49, 50, 51, 52, 53, 54, 55, 56, 57, 97, 98, 99, 100, 101, 102, 103, 104, 105, 106, 107, 108, 109, 110, 111, 112, 113, 114, 115, 116, 117, 118, 119, 120, 121, 122]⟩
theorem digS_at : ∀ d (h : d < 16), (digS[d]'(Nat.lt_of_lt_of_le h (by decide))) = hexc d := by decide
theorem and15 (v : Nat) (h : v < 4294967296) : bits BinOp.and IntKind.u64 (v : Int) 15 = ((v % 16 : Nat) : Int) := by
  have := bits_mask .u64 64 (by decide) (fun n h0 h1 => by rw [IntKind.wrap_u64]; omega) 4 (by decide) (v : Int) (by omega) (by omega)
  exact this
/-- one digit more ahead -/
theorem dig_store {w0 w : World} {H j : Nat} {T : TypeId} {cs : Array Value} {t : List UInt8} (hh : w.heap[H]? = some (.cells cs T (0, 0))) (hs : cs.size = 65) (hc : cs.toList.drop (j + 1) = t.map bv) (hj : j < 65) (x : UInt8) (hb : Below H w0 w) :
    ∃ cs', (w.setCell ⟨H, j, none⟩ (.int .u8 (x.toNat : Int))).heap[H]? = some (.cells cs' T (0, 0)) ∧ cs'.size = 65 ∧ cs'.toList.drop j = (x :: t).map bv ∧ Below H w0 (w.setCell ⟨H, j, none⟩ (.int .u8 (x.toNat : Int))) := by
  refine ⟨cs.setIfInBounds j (bv x), heap_setCell_same _ _ _ _ _ _ hh, by simpa using hs, ?_, hb.setCell (Nat.le_refl _) _⟩
  rw [Array.toList_setIfInBounds, List.drop_eq_getElem_cons (by simp; omega), List.getElem_set_self, List.map_cons, ← hc]
  rw [List.drop_set_of_lt (by omega)]

theorem rd_drop {w : World} {H j : Nat} {T : TypeId} {cs : Array Value} {l : List UInt8} (hh : w.heap[H]? = some (.cells cs T (0, 0))) (hc : cs.toList.drop j = l.map bv) : Rd w (H + 1) (some ⟨H, j, none⟩) l := by
  refine .inr ⟨H, j, rfl, by omega, fun i x hx => ?_⟩
  rw [cell_of_row _ _ _ _ _ _ hh, ← Array.getElem?_toList, ← List.getElem?_drop, hc, List.getElem?_map, hx]
  rfl
theorem slice65 (w : World) (H j : Nat) (hj : j < 65) : (Instr.sliceAt 109 (.pointer (some ⟨H, 0, none⟩)) (some (.int .i64 (j : Int))) none none).run Tryd.prog w = .ok (.slice (some ⟨H, j, none⟩) (65 - j) (65 - j)) w := by
  have ht : Tryd.prog.underlying 109 = some (.array (Tryd.prog.arrayLen 109) (Tryd.prog.elem 109)) := by kernel_rfl
  have hn : Tryd.prog.arrayLen 109 = 65 := by kernel_rfl
  have hs : (sizeOf (Tryd.prog.elem 109)).run Tryd.prog w = .ok 1 w := by kernel_rfl
  rw [run_sliceAt_array_l w 109 ⟨H, 0, none⟩ ht .i64 (j : Int) (by omega) (by rw [hn]; omega), hs, hn]
  show Result.ok (slicedAt _ _ _ _ _) w = _
  unfold slicedAt
  rw [if_neg (by omega), Int.toNat_natCast, Nat.mul_one]
  simp [Addr.add]
  exact fun h => h.symm

set_option maxRecDepth 100000 in
theorem fb16 (u : Nat) (w : World) (hu : u < 4294967296) (hl : Laid w) : Calls Tryd.prog 65 #[.slice none 0 0, .int .u64 (u : Int), .int .i64 16, .bool false, .bool false] w fun e w' => e = .returned (.tuple #[.slice none 0 0, sv (hexD u)]) ∧ Below w.heap.size w w' := by
  have HL := Lib.hid hl
  clear hl
  go_enter Tryd.func65, Tryd.ntmps65
  go_wp2_with (first | (refine (pow16 _).mono ?_; rintro e w' ⟨rfl, rfl⟩) | (refine (tz16 _ (HL.out.below ((Below.refl _ _).alloc (Nat.le_refl _) _))).mono ?_; rintro e w' ⟨rfl, rfl⟩))
  have hz : Tryd.zeroCells109.size = 65 := by kernel_rfl
  go_loopw [1, 13] (fun x i wr => ∃ (v j : Nat) (t : List UInt8) (cs : Array Value), x = .int .u64 (v : Int) ∧ i = .int .i64 (j : Int) ∧ v < 4294967296 ∧ j + t.length = 65 ∧ t.length ≤ 8 ∧ v * 16 ^ t.length < 4294967296 ∧ hexD u = hexD v ++ t ∧ wr.heap[w.heap.size]? = some (.cells cs 109 (0, 0)) ∧ cs.size = 65 ∧ cs.toList.drop j = t.map bv ∧ Below w.heap.size w wr) (fun x _ _ => (intOf x).toNat)
  case atStart =>
    exact ⟨u, 65, [], _, rfl, rfl, hu, rfl, by simp, by simpa using hu, by simp, heap_alloc_new _ _, hz, by rw [List.drop_eq_nil_of_le (by simp [hz])]; rfl, (Below.refl _ _).alloc (Nat.le_refl _) _⟩
  case round =>
    obtain ⟨v, j, t, cs, rfl, rfl, hv, hj, ht, hp, hd, hh, hs, hc, hb⟩ := hrel
    obtain ⟨j, rfl⟩ : ∃ i, j = i + 1 := ⟨j - 1, by omega⟩
    have hj64 : j < 65 := by omega
    obtain ⟨x0, hx0⟩ : ∃ x0, cs[j]? = some x0 := ⟨cs[j]'(by omega), Array.getElem?_eq_getElem (by omega)⟩
    have hcell : wr.cell? ⟨w.heap.size, j, none⟩ = some x0 := by rw [cell_of_row _ _ j _ _ _ hh]; exact hx0
    have hfr : wr.frozen? ⟨w.heap.size, j, none⟩ = false := frozen_of_row _ _ _ _ _ hh
    by_cases h16 : 16 ≤ v
    · have hlen : t.length ≤ 6 := by
        rcases Nat.lt_or_ge t.length 7 with h | h
        · omega
        · have h1 : 16 ^ 7 ≤ 16 ^ t.length := Nat.pow_le_pow_right (by omega) h
          have h2 : 16 * 16 ^ 7 ≤ v * 16 ^ t.length := Nat.mul_le_mul h16 h1
          have h3 : (16 : Nat) * 16 ^ 7 = 4294967296 := by decide
          omega
      have hd2 : hexD v = hexD (v / 16) ++ [hexc (v % 16)] := by rw [hexD, dif_neg (by omega)]
      have hp2 : v / 16 * 16 ^ (t.length + 1) < 4294967296 := by
        rw [Nat.pow_succ, Nat.mul_comm (16 ^ t.length), ← Nat.mul_assoc]
        exact Nat.lt_of_le_of_lt (Nat.mul_le_mul_right _ (Nat.div_mul_le_self v 16)) hp
      obtain ⟨cs', k1, k2, k3, k4⟩ := dig_store hh hs hc hj64 (hexc (v % 16)) hb
      have H := Lib.hid (And.intro hd (And.intro hd2 (And.intro hp2 (And.intro k1 (And.intro k2 (And.intro k3 k4))))))
      have hm : v % 16 < 16 := by omega
      have hand := and15 v hv
      obtain ⟨d, hde⟩ : ∃ d, v % 16 = d := ⟨_, rfl⟩
      rw [hde] at hm hand H
      have hm' : (d : Int) < 36 := by omega
      clear hd hd2 hp hp2 k1 k2 k3 k4 hh hs hc hb hx0 hde
      go_wp2_with fail
      go_roundw
      case rel =>
        obtain ⟨g1, g2, g3, g4, g5, g6, g7⟩ := H.out
        have g4' := g4
        rw [← digS_at d hm] at g4' g7
        exact ⟨v / 16, j, hexc d :: t, cs', rfl, rfl, by omega, by simp only [List.length_cons]; omega, by simp only [List.length_cons]; omega, g3, by rw [g1, g2]; simp, g4', g5, g6, g7⟩
      case measure => simp [intOf]; omega
    · obtain ⟨cs', k1, k2, k3, k4⟩ := dig_store hh hs hc hj64 (hexc v) hb
      have hd2 : hexD v = [hexc v] := by rw [hexD, dif_pos (by omega)]
      have H := Lib.hid (And.intro hd (And.intro hd2 (And.intro k1 (And.intro k2 (And.intro k3 k4)))))
      have hm : v < 16 := by omega
      have hm' : (v : Int) < 36 := by omega
      clear hd hd2 hp k1 k2 k3 k4 hh hs hc hb hx0
      have hsl := fun wx => slice65 wx w.heap.size j hj64
      go_wp2_with fail
      rw [run_string_b _ (w.heap.size + 1) _ _ _ (hexc v :: t) ?_ ?_]
      · go_wp2_with fail
        obtain ⟨g1, g2, g3, g4, g5, g6⟩ := H.out
        rw [← digS_at v hm] at g6
        refine bodyPost_ret (v := .tuple #[.slice none 0 0, sv (hexc v :: t)]) (by simp [results, go_sem]) rfl ⟨?_, g6⟩
        rw [g1, g2]; rfl
      · obtain ⟨g1, g2, g3, g4, g5, g6⟩ := H.out
        rw [← digS_at v hm] at g3
        exact rd_drop g3 g5
      · simp only [List.length_cons]; omega
set_option maxRecDepth 100000 in
theorem fu16' (u : Nat) (w : World) (hu : u < 4294967296) (hl : Laid w) : Calls Tryd.prog 49 #[.int .u64 (u : Int), .int .i64 16] w fun e w' => e = .returned (sv (hexD u)) ∧ Below w.heap.size w w' := by
  have HL := Lib.hid hl
  clear hl
  go_enter Tryd.func49, Tryd.ntmps49
  go_wp2_with (refine (fb16 _ _ hu HL.out).mono ?_; rintro e w' ⟨rfl, hb⟩)
  go_ret
  exact ⟨rfl, hb⟩
set_option maxRecDepth 100000 in
/-- FormatUint at base 16 -/
theorem hex_any (u : Nat) (w : World) (hu : u < 4294967296) (hl : Laid w) : Calls Tryd.prog 37 #[.int .u64 (u : Int), .int .i64 16] w fun e w' => e = .returned (sv (hexD u)) ∧ Below w.heap.size w w' := by
  have HL := Lib.hid hl
  clear hl
  go_enter Tryd.func37, Tryd.ntmps37
  go_wp2_with (refine (fu16' _ _ hu HL.out).mono ?_; rintro e w' ⟨rfl, hb⟩)
  go_ret
  exact ⟨rfl, hb⟩
end Go.Proofs.YtifdmgloheampaaDoor
