/- The walk of the library's FormatUint in base ten. Condition: the library's table lies. -/
import Derived.Test.YtmocmkfpblakbaaDoorShelf
import Derived.Test.YtmocmkfpblakbaaDoorDecM
import Derived.Lib.Walk
import Derived.Lib.AppendIntMem
import Derived.WalkKit
import Derived.BigCall
import Derived.BigGuard
namespace Go.Proofs.YtmocmkfpblakbaaDoor
open Go.RowKit Go.Shelf Go.Sort Go.Lib

theorem below_grow {w : World} (k : Nat) (os : Array Obj) : Below w.heap.size w (grow (w.drewN k) os) :=
  ⟨rfl, rfl, rfl, by
    show w.heap.size ≤ (w.heap ++ os).size
    simp, fun g hg => heap_grow_old w k os g hg⟩
set_option maxHeartbeats 6400000 in
set_option maxRecDepth 100000 in
theorem fmtu_in (u : Nat) (hu64 : u < 18446744073709551616) (w : World) (htab : Lib.TabIs Tryd.prog w "internal/strconv.uint64pow10" .u64 Lib.pow10Tab) :
    Calls Tryd.prog 57 #[.int .u64 (u : Int), .int .i64 10] w fun e w' => e = .returned (.string ⟨(Lib.decDigits u).toArray⟩) ∧ Below w.heap.size w w' := by
  by_cases hi : u < 100
  · have hiI : (u : Int) < 100 := by omega
    have hsm := fun W => Tryd.internal_strconv_small u hi W
    go_enter Tryd.func57, Tryd.ntmps57
    go_wp2_with (refine (hsm _).mono ?_; rintro e w' ⟨rfl, rfl⟩)
    go_ret
    exact ⟨rfl, Below.refl _ _⟩
  · have hiI : ¬ (u : Int) < 100 := by omega
    have hu1 : 1 ≤ u := by omega
    have hnd20 : Lib.nDigits u ≤ 20 := by have := Lib.numDigits_eq u hu1 hu64; split at this <;> omega
    have hal : Tryd.prog.arrayLen 104 = 24 := by kernel_rfl
    have hel : Tryd.prog.elem 104 = 5 := by kernel_rfl
    have hsl1 : ∀ W, (Instr.sliceAt 104 (.pointer (some ⟨w.heap.size, 0, none⟩)) none (some (.int .i64 (Lib.nDigits u : Int))) none).run Tryd.prog W = .ok (.slice (some ⟨w.heap.size, 0, none⟩) (Lib.nDigits u) 24) W := fun W => by
      rw [run_sliceAt_array_h W 104 ⟨w.heap.size, 0, none⟩ (by kernel_rfl) .i64 (Lib.nDigits u : Int) (by omega) (by rw [hal]; omega)]
      go_simp
      try omega
    have hH0 := Lib.holds_zero0 w 104 (Lib.nDigits u) (by omega)
    have hfmt := Tryd.internal_strconv_formatBase10 w.heap.size 0 24 u (Array.replicate (Lib.nDigits u) 0) (w.alloc (.cells Lib.zeros24 104)) hH0 (by rw [Array.size_replicate]; exact Lib.lt_pow_nDigits u) hu64 (by rw [Array.size_replicate]; omega)
    rw [Array.size_replicate] at hfmt
    have hnum := Tryd.internal_strconv_numDigits u hu1 hu64 (w.alloc (.cells Lib.zeros24 104)) (Lib.tabIs_alloc htab _)
    have HH0 := Lib.hid hH0
    clear hH0 hal hel
    go_enter Tryd.func57, Tryd.ntmps57
    go_wp2_with (first
      | (refine hnum.mono ?_; rintro e w' ⟨rfl, rfl⟩)
      | (refine hfmt.mono ?_; rintro e w' ⟨rfl, k, v', dk, rfl, hF⟩;
         have hcv : (convert 25 9 (.slice (some ⟨w.heap.size, 0, none⟩) (Lib.nDigits u) 24)).run Tryd.prog ((putRow (fun (b : UInt8) => Value.int .u8 (b.toNat : Int)) (w.alloc (.cells Lib.zeros24 104)) w.heap.size 0 dk).drewN k) = .ok (.string ⟨(Lib.decDigits u).toArray⟩) ((putRow (fun (b : UInt8) => Value.int .u8 (b.toNat : Int)) (w.alloc (.cells Lib.zeros24 104)) w.heap.size 0 dk).drewN k) := by {
           have h := run_convert_bytes_back (P := Tryd.prog) ((putRow (fun (b : UInt8) => Value.int .u8 (b.toNat : Int)) (w.alloc (.cells Lib.zeros24 104)) w.heap.size 0 dk).drewN k) 25 9 5 ⟨w.heap.size, 0, none⟩ 24 (Lib.decDigits u) (by kernel_rfl) (by kernel_rfl) (by kernel_rfl) (fun j hj => by
             rw [Lib.row_is_numeral hF j hj, Lib.add_plain, World.cell?_drewN]
             exact cell?_putRow (fun (b : UInt8) => Value.int .u8 (b.toNat : Int)) _ w.heap.size 0 _ dk HH0.out (by rw [hF.size, Array.size_replicate]) j (by rw [hF.size]; rw [Lib.decDigits_length] at hj; exact hj))
           rw [Lib.decDigits_length] at h
           exact h };
         obtain ⟨os, eo⟩ := Lib.fin_at w (.cells Lib.zeros24 104) dk k 0;
         have HEO := Lib.hid (And.intro eo hF); clear eo hF hfmt hnum;
         generalize ((putRow (fun (b : UInt8) => Value.int .u8 (b.toNat : Int)) (w.alloc (.cells Lib.zeros24 104)) w.heap.size 0 dk).drewN k) = W4 at *))
    go_ret
    refine ⟨rfl, ?_⟩
    rw [HEO.out.1]
    exact below_grow k os
theorem fmtu_any (u : Nat) (hu64 : u < 18446744073709551616) (w : World) (htab : Lib.TabIs Tryd.prog w "internal/strconv.uint64pow10" .u64 Lib.pow10Tab) :
    Calls Tryd.prog 41 #[.int .u64 (u : Int), .int .i64 10] w fun e w' => e = .returned (.string ⟨(Lib.decDigits u).toArray⟩) ∧ Below w.heap.size w w' := by
  have h := fmtu_in u hu64 w htab
  go_enter Tryd.func41, Tryd.ntmps41
  go_wp2_with (refine h.mono ?_; rintro e w1 ⟨rfl, hb⟩; have HB := Lib.hid hb; clear hb)
  go_ret
  exact ⟨rfl, HB.out⟩
end Go.Proofs.YtmocmkfpblakbaaDoor
