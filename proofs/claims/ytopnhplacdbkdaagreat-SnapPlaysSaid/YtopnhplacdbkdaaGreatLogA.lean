/- The walks of log.four, log.number, log.Size, slices.Clone at bytes. Condition: slices read as bytes; number: at least four of them. -/
import Derived.Test.YtopnhplacdbkdaaGreatLogMath
import Derived.Test.YtopnhplacdbkdaaGreatCrcRef
import Derived.BigQuiet
import Derived.Deep.QuietTactic
import Derived.WalkSmall
namespace Go.Proofs.YtopnhplacdbkdaaGreat
open Go.RowKit

theorem byte_int (q : Nat) (h : q < 256) : (q : Int) = ((UInt8.ofNat q).toNat : Int) := by rw [LogM.ofNat_toNat h]
theorem four_cells (v : Nat) (hv : v < 4294967296) : ([Value.int .u8 ((v : Int) % 256), .int .u8 ((v : Int) / 256 % 256), .int .u8 ((v : Int) / 65536 % 256), .int .u8 ((v : Int) / 16777216)]) = (LogM.four v).map bv := by
  have e0 : ((v : Int) % 256) = ((UInt8.ofNat (v % 256)).toNat : Int) := by rw [← byte_int _ (Nat.mod_lt _ (by omega))]; omega
  have e1 : ((v : Int) / 256 % 256) = ((UInt8.ofNat (v / 256 % 256)).toNat : Int) := by rw [← byte_int _ (Nat.mod_lt _ (by omega))]; omega
  have e2 : ((v : Int) / 65536 % 256) = ((UInt8.ofNat (v / 65536 % 256)).toNat : Int) := by rw [← byte_int _ (Nat.mod_lt _ (by omega))]; omega
  have e3 : ((v : Int) / 16777216) = ((UInt8.ofNat (v / 16777216 % 256)).toNat : Int) := by rw [← byte_int _ (Nat.mod_lt _ (by omega))]; omega
  rw [e0, e1, e2, e3]; rfl

set_option maxRecDepth 100000 in
theorem four_any (v : Nat) (w : World) (hv : v < 4294967296) :
    Calls Tryz.prog 64 #[.int .u32 (v : Int)] w fun e w' => ∃ a c, e = .returned (.slice a 4 c) ∧ Own w' w.heap.size a 4 c (LogM.four v) ∧ Below w.heap.size w w' := by
  go_enter Tryz.func64, Tryz.ntmps64
  go_wp2_with fail
  go_ret
  exact ⟨_, _, rfl, Own.lit w (Nat.le_refl _) _ (four_cells v hv) (by simp [maxLen]), (Below.refl _ _).alloc (Nat.le_refl _) _⟩

theorem ret_i64 {a b : Int} (h : a = b) : Ending.returned (.int .i64 a) = .returned (.int .i64 b) := by rw [h]
theorem or4 (x0 x1 x2 x3 : Nat) (h0 : x0 < 256) (h1 : x1 < 256) (h2 : x2 < 256) (h3 : x3 < 256) :
    bits .or .u32 (bits .or .u32 (bits .or .u32 (x0 : Int) ((x1 : Int) * 256)) ((x2 : Int) * 65536)) ((x3 : Int) * 16777216) = ((x0 + 256 * (x1 + 256 * (x2 + 256 * x3)) : Nat) : Int) := by
  have j : ∀ (i a b : Nat), b % 2 ^ i = 0 → a < 2 ^ i → a ||| b = a + b := fun i a b hb ha => by rw [Nat.or_comm, nat_join i b a hb ha, Nat.add_comm]
  have a1 : bits .or .u32 (x0 : Int) ((x1 : Int) * 256) = ((x0 + x1 * 256 : Nat) : Int) := by
    have := u32_or_nat x0 (x1 * 256) (by omega) (by omega)
    rw [j 8 x0 (x1 * 256) (by omega) (by omega)] at this
    exact this
  have a2 : bits .or .u32 ((x0 + x1 * 256 : Nat) : Int) ((x2 : Int) * 65536) = ((x0 + x1 * 256 + x2 * 65536 : Nat) : Int) := by
    have := u32_or_nat (x0 + x1 * 256) (x2 * 65536) (by omega) (by omega)
    rw [j 16 (x0 + x1 * 256) (x2 * 65536) (by omega) (by omega)] at this
    exact this
  have a3 : bits .or .u32 ((x0 + x1 * 256 + x2 * 65536 : Nat) : Int) ((x3 : Int) * 16777216) = ((x0 + x1 * 256 + x2 * 65536 + x3 * 16777216 : Nat) : Int) := by
    have := u32_or_nat (x0 + x1 * 256 + x2 * 65536) (x3 * 16777216) (by omega) (by omega)
    rw [j 24 (x0 + x1 * 256 + x2 * 65536) (x3 * 16777216) (by omega) (by omega)] at this
    exact this
  rw [a1, a2, a3]
  congr 1
  omega
theorem take_four {bs : List UInt8} {x0 x1 x2 x3 : UInt8} (h0 : bs[0]? = some x0) (h1 : bs[1]? = some x1) (h2 : bs[2]? = some x2) (h3 : bs[3]? = some x3) : bs.take 4 = [x0, x1, x2, x3] := by
  rw [List.take_add_one, List.take_add_one, List.take_add_one, List.take_add_one, h0, h1, h2, h3]; rfl
theorem ret_u32 {a b : Int} (h : a = b) : Ending.returned (.int .u32 a) = .returned (.int .u32 b) := by rw [h]
theorem size_any (n : Int) (w : World) : Calls Tryz.prog 76 #[.int .i64 n] w fun e w' => e = .returned (.int .i64 (max (min n 65536) 0 + 12)) ∧ w = w' := by
  have key : ∀ m : Int, m = max (min n 65536) 0 → 8 + m + 4 = max (min n 65536) 0 + 12 := by intro m hm; omega
  by_cases h1 : n ≤ 65536
  · by_cases h2 : 0 ≤ n
    · have e := key n (by omega)
      have E := Lib.hid e
      clear e key
      go_enter Tryz.func76, Tryz.ntmps76
      go_wp2_with fail
      go_ret
      exact ⟨ret_i64 E.out, rfl⟩
    · have e := key 0 (by omega)
      have E := Lib.hid e
      clear e key
      go_enter Tryz.func76, Tryz.ntmps76
      go_wp2_with fail
      go_ret
      exact ⟨ret_i64 E.out, rfl⟩
  · have e := key 65536 (by omega)
    have E := Lib.hid e
    clear e key
    go_enter Tryz.func76, Tryz.ntmps76
    go_wp2_with fail
    go_ret
    exact ⟨ret_i64 E.out, rfl⟩

set_option maxRecDepth 100000 in
theorem number_any (a : Option Addr) (n c : Nat) (bs : List UInt8) (w : World) (hn : bs.length = n) (h4 : 4 ≤ n) (hm : n ≤ 9223372036854775807) (h : Rd w w.heap.size a bs) :
    Calls Tryz.prog 75 #[.slice a n c] w fun e w' => e = .returned (.int .u32 (CrcM.num (bs.take 4) : Nat)) ∧ Below w.heap.size w w' := by
  obtain ⟨b, o, x0, rfl, hb, hx0, hc0⟩ := h.at_ (show 0 < bs.length by omega)
  obtain ⟨b1, o1, x1, e1, _, hx1, hc1⟩ := h.at_ (show 1 < bs.length by omega)
  obtain ⟨b2, o2, x2, e2, _, hx2, hc2⟩ := h.at_ (show 2 < bs.length by omega)
  obtain ⟨b3, o3, x3, e3, _, hx3, hc3⟩ := h.at_ (show 3 < bs.length by omega)
  injection e1 with e1; injection e1 with e11 e12; subst e11; subst e12
  injection e2 with e1; injection e1 with e11 e12; subst e11; subst e12
  injection e3 with e1; injection e1 with e11 e12; subst e11; subst e12
  have i0 : (0 : Int) < (n : Int) := by omega
  have i1 : (1 : Int) < (n : Int) := by omega
  have i2 : (2 : Int) < (n : Int) := by omega
  have i3 : (3 : Int) < (n : Int) := by omega
  rw [Nat.add_zero] at hc0
  have ht : bits .or .u32 (bits .or .u32 (bits .or .u32 (x0.toNat : Int) ((x1.toNat : Int) * 256)) ((x2.toNat : Int) * 65536)) ((x3.toNat : Int) * 16777216) = (CrcM.num (bs.take 4) : Nat) := by
    rw [or4 _ _ _ _ (CrcM.u8_lt _) (CrcM.u8_lt _) (CrcM.u8_lt _) (CrcM.u8_lt _), take_four hx0 hx1 hx2 hx3]
    simp [CrcM.num]
  have HT := Lib.hid ht
  have l0 := CrcM.u8_lt x0
  have l1 := CrcM.u8_lt x1
  have l2 := CrcM.u8_lt x2
  have l3 := CrcM.u8_lt x3
  clear hn hx0 hx1 hx2 hx3 ht
  go_enter Tryz.func75, Tryz.ntmps75
  go_wp2_with fail
  go_quiet (fail)
  go_wp2_with fail
  go_ret
  exact ⟨ret_u32 HT.out, below_drewN (Below.refl _ _) _⟩
end Go.Proofs.YtopnhplacdbkdaaGreat
