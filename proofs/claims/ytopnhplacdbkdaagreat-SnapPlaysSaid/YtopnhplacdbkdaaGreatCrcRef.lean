/- The walks of the document's Crc and of the statements' known answer. Condition: the sum is a uint32, the slice reads as bytes. -/
import Derived.Test.YtopnhplacdbkdaaGreatCrcNext
import Derived.Test.YtopnhplacdbkdaaGreatOwn
import Derived.Lib.SlBytesConst
namespace Go.Proofs.YtopnhplacdbkdaaGreat
open Go.RowKit




theorem xor_byte {c : Nat} (hc : c < 4294967296) (x : UInt8) : bits .xor .u32 (c : Int) (x.toNat : Int) = ((c ^^^ x.toNat : Nat) : Int) :=
  u32_xor_nat c x.toNat hc (by have := CrcM.u8_lt x; omega)

set_option maxRecDepth 100000 in
set_option maxHeartbeats 1000000 in
theorem refcrc_any (s : Nat) (a : Option Addr) (n c : Nat) (bs : List UInt8) (w : World) (hs : s < 4294967296) (hn : bs.length = n) (hm : n ≤ 9223372036854775807) (h : Rd w w.heap.size a bs) :
    Calls Tryz.prog 84 #[.int .u32 (s : Int), .slice a n c] w fun e w' => e = .returned (.int .u32 (CrcM.crc s bs : Nat)) ∧ w = w' := by
  have hinv := inv_int hs
  have hsg : IntKind.u32.signed = false := rfl
  have HN := Lib.hid hn
  clear hn
  go_enter Tryz.func84, Tryz.ntmps84
  go_wp2_with fail
  clear hinv hsg
  go_loop [5, 6] (fun c i => ∃ k : Nat, k ≤ n ∧ i = .int .i64 k ∧ c = .int .u32 (CrcM.run (CrcM.inv s) (bs.take k) : Nat)) (fun _ i => n - (intOf i).toNat)
  case atStart => exact ⟨0, Nat.zero_le _, rfl, rfl⟩
  case round =>
    obtain ⟨k, hk, rfl, rfl⟩ := hrel
    have hcl := CrcM.run_lt (bs.take k) (CrcM.inv_lt hs)
    by_cases hlt : k < n
    · obtain ⟨b, o, x, rfl, hb, hx, hc⟩ := h.at_ (show k < bs.length by rw [HN.out]; exact hlt)
      have hs1 := run_snoc (c := CrcM.inv s) hx
      obtain ⟨c, hcc⟩ : ∃ c, c = CrcM.run (CrcM.inv s) (bs.take k) := ⟨_, rfl⟩
      rw [← hcc] at hs1 hcl ⊢
      have hx2 := xor_byte hcl x
      have hxl := CrcM.u8_lt x
      have HS := Lib.hid hs1
      have HX := Lib.hid hx
      clear hs1 hx hcc h
      go_wp2_with fail
      clear hx2
      go_loop [5, 7] (fun c' i => ∃ j : Nat, j ≤ 8 ∧ i = .int .i64 j ∧ c' = .int .u32 (CrcM.Ln j (c ^^^ x.toNat) : Nat)) (fun _ i => 8 - (intOf i).toNat)
      case atStart => exact ⟨0, by omega, rfl, rfl⟩
      case round =>
        obtain ⟨j, hj, rfl, rfl⟩ := hrel
        have hxl2 : c ^^^ x.toNat < 4294967296 := Nat.xor_lt_two_pow (n := 32) hcl (by omega)
        obtain ⟨y, hy⟩ : ∃ y, y = CrcM.Ln j (c ^^^ x.toNat) := ⟨_, rfl⟩
        have hyl : y < 4294967296 := by rw [hy]; exact CrcM.Ln_lt j hxl2
        have hs : CrcM.Ln (j + 1) (c ^^^ x.toNat) = CrcM.L y := by rw [hy]; exact CrcM.Ln_snoc j _
        have HS2 := Lib.hid hs
        rw [← hy]
        clear hs
        have HY := Lib.hid hy
        clear hy
        by_cases hj8 : j < 8
        · rcases Nat.mod_two_eq_zero_or_one y with h2 | h2
          · have hb : bits .and .u32 (y : Int) 1 = 0 := by rw [show (1 : Int) = ((1 : Nat) : Int) from rfl, u32_and_nat y 1 hyl (by omega), nat_mask1, h2]; rfl
            have H2 := Lib.hid h2
            clear h2
            go_wp2_with fail
            go_round
            case rel => exact ⟨j + 1, by omega, by go_num, by rw [HS2.out]; exact even_step H2.out⟩
            case measure => simp [intOf]; omega
          · have hb : bits .and .u32 (y : Int) 1 = 1 := by rw [show (1 : Int) = ((1 : Nat) : Int) from rfl, u32_and_nat y 1 hyl (by omega), nat_mask1, h2]
            have H2 := Lib.hid h2
            clear h2
            go_wp2_with fail
            go_round
            case rel => exact ⟨j + 1, by omega, by go_num, by rw [HS2.out]; exact odd_step hyl H2.out⟩
            case measure => simp [intOf]; omega
        · obtain rfl : j = 8 := by omega
          go_wp2_with fail
          go_round
          case rel => exact ⟨k + 1, by omega, by go_num, by rw [HS.out, HY.out]; rfl⟩
          case measure => simp [intOf]; omega
    · obtain rfl : k = n := by omega
      have hfin := inv_int hcl
      have hsg : IntKind.u32.signed = false := rfl
      rw [List.take_of_length_le (by rw [HN.out]; exact Nat.le_refl _)] at hfin ⊢
      have hcrc : CrcM.inv (CrcM.run (CrcM.inv s) bs) = CrcM.crc s bs := rfl
      rw [hcrc] at hfin
      clear h hcrc hcl
      go_wp2_with fail
      go_ret
      exact ⟨rfl, rfl⟩

/-- a literal slice of bytes just laid -/
theorem Rd.new (w : World) (cs : Array Value) (t : TypeId) (fr : Nat × Nat) (bs : List UInt8) (h : cs.toList = bs.map bv) : Rd (w.alloc (.cells cs t fr)) (w.heap.size + 1) (some ⟨w.heap.size, 0, none⟩) bs :=
  .inr ⟨_, _, rfl, by omega, fun j x hx => by
    rw [cell_of_row _ _ _ _ _ _ (heap_alloc_new _ _), ← Array.getElem?_toList, h, List.getElem?_map, Nat.zero_add, hx]; rfl⟩

theorem refcrc_zero (a : Option Addr) (n c : Nat) (bs : List UInt8) (w : World) (hn : bs.length = n) (hm : n ≤ 9223372036854775807) (h : Rd w w.heap.size a bs) :
    Calls Tryz.prog 84 #[.int .u32 0, .slice a n c] w fun e w' => e = .returned (.int .u32 (CrcM.crc 0 bs : Nat)) ∧ w = w' := refcrc_any 0 a n c bs w (by omega) hn hm h
end Go.Proofs.YtopnhplacdbkdaaGreat
