/- The walk of the statements' own 'turned'. -/
import Derived.Test.YtopnhplacdbkdaaCrcRef
import Derived.BigRegion
import Derived.ChangeAlike
namespace Go.Proofs.Ytopnhplacdbkdaa
open Go.RowKit
theorem xor_pow (x : UInt8) (r : Nat) (h : r < 8) : bits .xor .u8 (x.toNat : Int) ((2 : Int) ^ r % 256) = ((x ^^^ UInt8.ofNat (2 ^ r)).toNat : Int) := by
  have hp : 2 ^ r < 256 := by
    have h2 : 2 ^ r ≤ 2 ^ 7 := Nat.pow_le_pow_right (by omega) (by omega)
    omega
  have e : (2 : Int) ^ r % 256 = ((2 ^ r : Nat) : Int) := by
    have key : ∀ q : Nat, q < 256 → ((q : Nat) : Int) % 256 = (q : Int) := fun q hq => by omega
    rw [show (2 : Int) ^ r = ((2 ^ r : Nat) : Int) by simp]
    exact key _ hp
  rw [e, u8_xor_nat _ _ (CrcM.u8_lt x) hp, UInt8.toNat_xor, UInt8.toNat_ofNat_of_lt' hp]
set_option maxRecDepth 100000 in
set_option maxHeartbeats 1000000 in
theorem turned_any (a : Option Addr) (n c : Nat) (bs : List UInt8) (k m : Nat) (w : World) (hn : bs.length = n) (hm : n ≤ 5000) (hk : k + 32 ≤ 8 * n) (hml : m < 4294967296) (h : Rd w w.heap.size a bs) :
    Calls Try.prog 23 #[.slice a n c, .int .i64 (k : Int), .int .u32 (m : Int)] w fun e w' => ∃ a' c', e = .returned (.slice a' n c') ∧ Own w' w.heap.size a' n c' (CrcM.turn bs k m 32) ∧ Below w.heap.size w w' := by
  have HN := Lib.hid hn
  have hlit := Own.lit (B := w.heap.size) (bs := []) w (Nat.le_refl _) #[] rfl (by simp)
  have hbl : Below w.heap.size w (w.alloc (.cells #[] 5)) := (Below.refl _ _).alloc (Nat.le_refl _) _
  have hrl := h.below hbl
  clear hn
  go_enter Try.func23, Try.ntmps23
  go_wp2_with (at_builtin; refine wpList_append_b rfl (.tmp 9) (.tmp 10) rfl w _ w.heap.size hbl (by simp) _ 0 0 [] rfl hlit _ a n c bs rfl hrl HN.out n (by omega) (by omega) ?_; intro a1 c1 w1 hown1 hg1 hb1 hat1)
  rw [List.nil_append] at hown1
  clear hg1 hat1 hlit hrl hbl h
  go_loopw [8] (fun j wr => ∃ j' : Nat, j' ≤ 32 ∧ j = .int .i64 j' ∧ Own wr w.heap.size a1 n c1 (CrcM.turn bs k m j') ∧ Below w.heap.size w wr) (fun j _ => 32 - (intOf j).toNat)
  case atStart => exact ⟨0, by omega, rfl, hown1, hb1⟩
  case round =>
    obtain ⟨j, hj, rfl, hown, hbel⟩ := hrel
    by_cases hlt : j < 32
    · have hb : bits .and .u32 ((m : Int) / 2 ^ j) 1 = ((m / 2 ^ j % 2 : Nat) : Int) := by
        have e : (m : Int) / 2 ^ j = ((m / 2 ^ j : Nat) : Int) := by simp
        rw [e, show (1 : Int) = ((1 : Nat) : Int) from rfl, u32_and_nat _ 1 (by have := Nat.div_le_self m (2 ^ j); omega) (by omega), nat_mask1]
      rcases Nat.mod_two_eq_zero_or_one (m / 2 ^ j) with h2 | h2
      · rw [h2] at hb
        have H2 := Lib.hid h2
        clear h2
        go_wp2_with fail
        go_roundw
        case rel => exact ⟨j + 1, by omega, by go_num, by rw [CrcM.turn_no H2.out]; exact hown, hbel⟩
        case measure => simp [intOf]; omega
      · rw [h2] at hb
        obtain ⟨g, rfl, hgB, hgl⟩ := hown.at_ (by omega)
        have hi : (k + j) / 8 < n := by omega
        obtain ⟨x, hx⟩ : ∃ x, (CrcM.turn bs k m j)[(k + j) / 8]? = some x := ⟨_, List.getElem?_eq_getElem (by rw [hown.len]; exact hi)⟩
        have hcell := hown.cell hx
        have hfr := hown.frozen ((k + j) / 8)
        have ht := CrcM.turn_yes (b := bs) (k := k) (m := m) (j := j) h2 (by rw [HN.out]; omega) hx
        have HX := Lib.hid hx
        have HT := Lib.hid ht
        have H2 := Lib.hid h2
        clear hx ht h2
        go_wp2_with fail
        have hcell' : wr.cell? ⟨g, ((k : Int) + j).toNat / 8, none⟩ = some (.int .u8 (x.toNat : Int)) := by rw [show ((k : Int) + j).toNat = k + j by omega]; exact hcell
        go_region
        go_wp2_with fail
        go_roundw
        case rel =>
          rw [xor_pow x _ (Nat.mod_lt _ (by omega))]
          exact ⟨j + 1, by omega, by go_num, by rw [HT.out]; exact hown.store _, (hbel.setCell hgB _).drew⟩
        case measure => simp [intOf]; omega
    · obtain rfl : j = 32 := by omega
      go_wp2_with fail
      go_ret
      exact ⟨_, _, rfl, hown, hbel⟩
end Go.Proofs.Ytopnhplacdbkdaa
