/- The walk of crc.table: it gives the 256 numbers that eight turns make of each byte. No condition. -/
import Derived.Test.YtopnhplacdbkdaaGreatProg
import Derived.Test.YtopnhplacdbkdaaGreatCrcMath
import Derived.WalkKit
import Derived.WalkLawsBesides
import Derived.WalkSpells
import Derived.Lib.Hide
import Derived.Laws.CopyOwn
namespace Go.Proofs.YtopnhplacdbkdaaGreat
open Go.RowKit

theorem zero88_size : Tryz.zeroCells100.size = 256 := by kernel_rfl
theorem info88_size : (Tryz.prog.info? 100).map (·.size) = some 256 := by kernel_rfl
theorem zero88_one : Tryz.zeroCells100.all (·.oneCell') = true := by kernel_rfl
/-- the table's cells -/
def tableCells : Array Value := (Array.range 256).map fun i => .int .u32 (CrcM.Ln 8 i : Nat)
theorem tableCells_size : tableCells.size = 256 := by simp [tableCells]
theorem tableCells_one : tableCells.all (·.oneCell') = true := by
  rw [Array.all_eq_true_iff_forall_mem]
  intro v hv
  obtain ⟨i, _, rfl⟩ := by simpa [tableCells] using hv
  rfl
theorem info88_cells : (Tryz.prog.info? 100).map (·.size) = some tableCells.size := by rw [info88_size, tableCells_size]
theorem zero88_cells : Tryz.zeroCells100.size = tableCells.size := by rw [zero88_size, tableCells_size]
theorem tableCells_at {i : Nat} (h : i < 256) : tableCells[i]? = some (.int .u32 (CrcM.Ln 8 i : Nat)) := by simp [tableCells, h]

theorem odd_step {x : Nat} (hx : x < 4294967296) (h : x % 2 = 1) : Value.int .u32 (bits .xor .u32 ((x : Int) / 2) 3988292384) = .int .u32 (CrcM.L x : Nat) := by
  have e : bits .xor .u32 ((x : Int) / 2) 3988292384 = ((x / 2 ^^^ 3988292384 : Nat) : Int) := u32_xor_nat (x / 2) 3988292384 (by omega) (by omega)
  rw [e]; simp [CrcM.L, h, CrcM.P]
theorem even_step {x : Nat} (h : x % 2 = 0) : Value.int .u32 ((x : Int) / 2) = .int .u32 (CrcM.L x : Nat) := by
  simp [CrcM.L, h]

theorem step_rel {w wr : World} {k : Nat} {cs : Array Value} (hlt : k < 256) (hcs : cs.size = 256) (hks : ∀ j, j < k → cs[j]? = some (.int .u32 (CrcM.Ln 8 j : Nat)))
    (hrow : wr.heap[w.heap.size + 1]? = some (.cells cs 100 (0, 0))) (hres : wr.heap[w.heap.size]? = some (.cells Tryz.zeroCells100 100 (0, 0))) (hbel : Below w.heap.size w wr) :
    ∃ (k' : Nat) (cs' : Array Value), k' ≤ 256 ∧ Value.int .i64 ((k : Int) + 1) = .int .i64 k' ∧ cs'.size = 256 ∧ (∀ j, j < k' → cs'[j]? = some (.int .u32 (CrcM.Ln 8 j : Nat))) ∧
      (wr.setCell ⟨w.heap.size + 1, k, none⟩ (.int .u32 (CrcM.Ln 8 k : Nat))).heap[w.heap.size + 1]? = some (.cells cs' 100 (0, 0)) ∧
      (wr.setCell ⟨w.heap.size + 1, k, none⟩ (.int .u32 (CrcM.Ln 8 k : Nat))).heap[w.heap.size]? = some (.cells Tryz.zeroCells100 100 (0, 0)) ∧
      Below w.heap.size w (wr.setCell ⟨w.heap.size + 1, k, none⟩ (.int .u32 (CrcM.Ln 8 k : Nat))) := by
  refine ⟨k + 1, cs.setIfInBounds k (.int .u32 (CrcM.Ln 8 k : Nat)), by omega, by go_num, by simpa using hcs, ?_, heap_setCell_same _ _ _ _ _ _ hrow, ?_, hbel.setCell (by simp) _⟩
  · intro j hj
    rw [Array.getElem?_setIfInBounds]
    by_cases h : k = j
    · subst h; simp [hcs, hlt]
    · rw [if_neg h]; exact hks j (by omega)
  · rw [heap_setCell_other _ _ _ _ (by simp)]; exact hres

set_option maxRecDepth 100000 in
set_option maxHeartbeats 1000000 in
theorem table_any (w : World) : Calls Tryz.prog 97 #[] w fun e w' => e = .returned (.agg tableCells) ∧ Below w.heap.size w w' := by
  go_enter Tryz.func97, Tryz.ntmps97
  go_wp2_with fail
  go_loopw [5] (fun i wr => ∃ (k : Nat) (cs : Array Value), k ≤ 256 ∧ i = .int .i64 k ∧ cs.size = 256 ∧ (∀ j, j < k → cs[j]? = some (.int .u32 (CrcM.Ln 8 j : Nat))) ∧ wr.heap[w.heap.size + 1]? = some (.cells cs 100 (0, 0)) ∧ wr.heap[w.heap.size]? = some (.cells Tryz.zeroCells100 100 (0, 0)) ∧ Below w.heap.size w wr) (fun i _ => 256 - (intOf i).toNat)
  case atStart =>
    refine ⟨0, Tryz.zeroCells100, by omega, rfl, zero88_size, fun j h => by omega, heap_alloc2_new _ _ _, heap_alloc2_old _ _ _, ((Below.refl _ _).alloc (Nat.le_refl _) _).alloc (by simp) _⟩
  case round =>
    obtain ⟨k, cs, hk, rfl, hcs, hks, hrow, hres, hbel⟩ := hrel
    by_cases hlt : k < 256
    · go_wp2_with fail
      go_loop [3, 10] (fun c i => ∃ j : Nat, j ≤ 8 ∧ i = .int .i64 j ∧ c = .int .u32 (CrcM.Ln j k : Nat)) (fun _ i => 8 - (intOf i).toNat)
      case atStart => exact ⟨0, by omega, rfl, rfl⟩
      case round =>
        obtain ⟨j, hj, rfl, rfl⟩ := hrel
        obtain ⟨x, hx⟩ : ∃ x, x = CrcM.Ln j k := ⟨_, rfl⟩
        have hxl : x < 4294967296 := by rw [hx]; exact CrcM.Ln_lt j (by omega)
        have hs : CrcM.Ln (j + 1) k = CrcM.L x := by rw [hx]; exact CrcM.Ln_snoc j k
        have HS := Lib.hid hs
        rw [← hx]
        clear hs
        have HX := Lib.hid hx
        clear hx
        by_cases hj8 : j < 8
        · rcases Nat.mod_two_eq_zero_or_one x with h2 | h2
          · have hb : bits .and .u32 (x : Int) 1 = 0 := by rw [show (1 : Int) = ((1 : Nat) : Int) from rfl, u32_and_nat x 1 hxl (by omega), nat_mask1, h2]; rfl
            have H2 := Lib.hid h2
            clear h2
            go_wp2_with fail
            go_round
            case rel => exact ⟨j + 1, by omega, by go_num, by rw [HS.out]; exact even_step H2.out⟩
            case measure => simp [intOf]; omega
          · have hb : bits .and .u32 (x : Int) 1 = 1 := by rw [show (1 : Int) = ((1 : Nat) : Int) from rfl, u32_and_nat x 1 hxl (by omega), nat_mask1, h2]
            have H2 := Lib.hid h2
            clear h2
            go_wp2_with fail
            go_round
            case rel => exact ⟨j + 1, by omega, by go_num, by rw [HS.out]; exact odd_step hxl H2.out⟩
            case measure => simp [intOf]; omega
        · obtain rfl : j = 8 := by omega
          have hc : wr.cell? ⟨w.heap.size + 1, k, none⟩ = some cs[k] := by rw [cell_of_row _ _ _ _ _ _ hrow]; simp [hcs, hlt]
          have hf : wr.frozen? ⟨w.heap.size + 1, k, none⟩ = false := frozen_of_row _ _ _ _ _ hrow
          go_wp2_with fail
          go_roundw
          case rel => rw [HX.out]; exact step_rel hlt hcs hks hrow hres hbel
          case measure => simp [intOf]; omega
    · obtain rfl : k = 256 := by omega
      have hcells : cs = tableCells := by
        apply Array.ext (by rw [hcs, tableCells_size])
        intro i h1 h2
        have := hks i (by omega)
        rw [← tableCells_at (by omega)] at this
        simpa [h1, h2] using this
      subst hcells
      clear hks hcs
      go_wp2_with (first | (refine wpList_load_row rfl 100 (.tmp 1) rfl _ rfl _ tableCells (0, 0) _ hrow Tryz.underlying100 rfl info88_cells ?_) | (refine wpList_store_row rfl 100 (.tmp 0) (.tmp 25) rfl _ tableCells rfl rfl _ _ hres info88_cells zero88_cells tableCells_one ?_))
      refine bodyPost_ret (results_cell_row Tryz.results97 _ _ _ _ tableCells _ _ rfl (setRow_heap _ _ _ _ _ _ hres) Tryz.underlying100 rfl info88_cells) rfl ⟨rfl, ?_⟩
      exact below_setRow hbel (Nat.le_refl _) _
end Go.Proofs.YtopnhplacdbkdaaGreat
