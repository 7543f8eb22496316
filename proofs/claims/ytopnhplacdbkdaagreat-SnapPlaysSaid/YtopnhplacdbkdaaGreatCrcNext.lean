/- The walks of crc.Next, crc.Sum and of the document's Crc: each gives the checksum of CrcMath. Condition: the sum is a uint32, the slice reads as bytes. -/
import Derived.Test.YtopnhplacdbkdaaGreatCrcTable
import Derived.Test.YtopnhplacdbkdaaGreatBytes
import Derived.Deep.WholeRow
namespace Go.Proofs.YtopnhplacdbkdaaGreat
open Go.RowKit

theorem inv_int {s : Nat} (h : s < 4294967296) : bits .xor .u32 IntKind.u32.max (s : Int) = (CrcM.inv s : Nat) := by
  have e : bits .xor .u32 ((4294967295 : Nat) : Int) (s : Int) = ((4294967295 ^^^ s : Nat) : Int) := u32_xor_nat 4294967295 s (by omega) h
  rw [Nat.xor_comm] at e
  exact e
/-- what one round of the table does -/
theorem table_step {c : Nat} (hc : c < 4294967296) (x : UInt8) : ∃ i : Nat, i < 256 ∧ bits .xor .u8 ((c : Int) % 256) (x.toNat : Int) = (i : Int) ∧
    bits .xor .u32 ((c : Int) / 256) ((CrcM.Ln 8 i : Nat) : Int) = (CrcM.step c x : Nat) := by
  have hx := CrcM.u8_lt x
  have hi : c % 256 ^^^ x.toNat < 256 := Nat.xor_lt_two_pow (n := 8) (by omega) hx
  refine ⟨c % 256 ^^^ x.toNat, hi, u8_xor_nat (c % 256) x.toNat (by omega) hx, ?_⟩
  rw [CrcM.step_table]
  exact u32_xor_nat (c / 256) _ (by omega) (CrcM.Ln_lt 8 (by omega))
theorem run_snoc {c : Nat} {bs : List UInt8} {k : Nat} {x : UInt8} (h : bs[k]? = some x) : CrcM.run c (bs.take (k + 1)) = CrcM.step (CrcM.run c (bs.take k)) x := by
  rw [List.take_add_one, h, CrcM.run_append]; rfl

set_option maxRecDepth 100000 in
set_option maxHeartbeats 1000000 in
theorem next_any (s : Nat) (a : Option Addr) (n c : Nat) (bs : List UInt8) (w : World) (hs : s < 4294967296) (hn : bs.length = n) (hm : n ≤ 9223372036854775807) (h : Rd w w.heap.size a bs) :
    Calls Tryz.prog 90 #[.int .u32 (s : Int), .slice a n c] w fun e w' => e = .returned (.int .u32 (CrcM.crc s bs : Nat)) ∧ Below w.heap.size w w' := by
  have hinv := inv_int hs
  have hsg : IntKind.u32.signed = false := rfl
  have HN := Lib.hid hn
  clear hn
  go_enter Tryz.func90, Tryz.ntmps90
  go_wp2_with (first | (go_at_call 97; refine (table_any _).mono ?_; rintro e w1 ⟨rfl, hb1⟩) | (refine wpList_store_row rfl 100 (.tmp 5) (.tmp 9) rfl _ tableCells rfl rfl _ _ (heap_alloc_new _ _) info88_cells zero88_cells tableCells_one ?_; rw [World.setRow_alloc_new]))
  obtain ⟨W, hW⟩ : ∃ W, W = w1.alloc (.cells tableCells 100) := ⟨_, rfl⟩
  obtain ⟨g, hg⟩ : ∃ g, g = w1.heap.size := ⟨_, rfl⟩
  have hbW : Below w.heap.size w W := by rw [hW]; exact hb1.alloc hb1.size _
  have hrow : W.heap[g]? = some (.cells tableCells 100 (0, 0)) := by rw [hW, hg]; exact heap_alloc_new _ _
  rw [← hg, ← hW]
  clear hW hg
  have hR := h.below hbW
  clear h hb1 hsg
  go_loop [6, 14] (fun c i => ∃ k : Nat, k ≤ n ∧ i = .int .i64 k ∧ c = .int .u32 (CrcM.run (CrcM.inv s) (bs.take k) : Nat)) (fun _ i => n - (intOf i).toNat)
  case atStart => exact ⟨0, Nat.zero_le _, rfl, rfl⟩
  case round =>
    obtain ⟨k, hk, rfl, rfl⟩ := hrel
    have hcl := CrcM.run_lt (bs.take k) (CrcM.inv_lt hs)
    by_cases hlt : k < n
    · obtain ⟨b, o, x, rfl, hb, hx, hc⟩ := hR.at_ (show k < bs.length by rw [HN.out]; exact hlt)
      have hs1 := run_snoc (c := CrcM.inv s) hx
      obtain ⟨c, hcc⟩ : ∃ c, c = CrcM.run (CrcM.inv s) (bs.take k) := ⟨_, rfl⟩
      rw [← hcc] at hs1 hcl ⊢
      obtain ⟨i, hi, hi1, hi2⟩ := table_step hcl x
      have hrc : W.cell? ⟨g, i, none⟩ = some (.int .u32 (CrcM.Ln 8 i : Nat)) := by rw [cell_of_row _ _ _ _ _ _ hrow, tableCells_at hi]
      have HS := Lib.hid hs1
      have HX := Lib.hid hx
      clear hs1 hx hcc hrow hR hinv
      have hil : (i : Int) < 256 := by omega
      go_wp2_with fail
      go_round
      case rel => exact ⟨k + 1, by omega, by go_num, by rw [HS.out]⟩
      case measure => simp [intOf]; omega
    · obtain rfl : k = n := by omega
      have hfin := inv_int hcl
      have hsg : IntKind.u32.signed = false := rfl
      rw [List.take_of_length_le (by rw [HN.out]; exact Nat.le_refl _)] at hfin ⊢
      have hcrc : CrcM.inv (CrcM.run (CrcM.inv s) bs) = CrcM.crc s bs := rfl
      rw [hcrc] at hfin
      clear hR hrow hcrc hcl
      go_wp2_with fail
      go_ret
      exact ⟨rfl, hbW⟩

theorem sum_any (a : Option Addr) (n c : Nat) (bs : List UInt8) (w : World) (hn : bs.length = n) (hm : n ≤ 9223372036854775807) (h : Rd w w.heap.size a bs) :
    Calls Tryz.prog 66 #[.slice a n c] w fun e w' => e = .returned (.int .u32 (CrcM.crc 0 bs : Nat)) ∧ Below w.heap.size w w' := by
  have HN := Lib.hid hn
  clear hn
  go_enter Tryz.func66, Tryz.ntmps66
  go_wp2_with (go_at_call 90; refine (next_any 0 _ _ _ bs _ (by omega) HN.out hm h).mono ?_; rintro e w1 ⟨rfl, hb1⟩)
  go_ret
  exact ⟨rfl, hb1⟩
end Go.Proofs.YtopnhplacdbkdaaGreat
