/- The walks of the reference's own four, number, Put. Condition: slices read as bytes; number: at least four of them. -/
import Derived.Test.YtopnhplacdbkdaaGreatLogNext
import Derived.Test.YtopnhplacdbkdaaGreatCrcRef
namespace Go.Proofs.YtopnhplacdbkdaaGreat
open Go.RowKit

set_option maxRecDepth 100000 in
theorem reffour_any (v : Nat) (w : World) (hv : v < 4294967296) :
    Calls Tryz.prog 83 #[.int .u32 (v : Int)] w fun e w' => ∃ a c, e = .returned (.slice a 4 c) ∧ Own w' w.heap.size a 4 c (LogM.four v) ∧ Below w.heap.size w w' := by
  have e0 : bits .and .u32 (v : Int) 255 = (v : Int) % 256 := by
    rw [show (255 : Int) = ((255 : Nat) : Int) from rfl, u32_and_nat _ 255 hv (by omega), show (255 : Nat) = 2 ^ 8 - 1 from rfl, Nat.and_two_pow_sub_one_eq_mod]; omega
  have e1 : bits .and .u32 ((v : Int) / 256) 255 = (v : Int) / 256 % 256 := by
    rw [show ((v : Int) / 256) = ((v / 256 : Nat) : Int) by omega, show (255 : Int) = ((255 : Nat) : Int) from rfl, u32_and_nat _ 255 (by omega) (by omega), show (255 : Nat) = 2 ^ 8 - 1 from rfl, Nat.and_two_pow_sub_one_eq_mod]; omega
  have e2 : bits .and .u32 ((v : Int) / 65536) 255 = (v : Int) / 65536 % 256 := by
    rw [show ((v : Int) / 65536) = ((v / 65536 : Nat) : Int) by omega, show (255 : Int) = ((255 : Nat) : Int) from rfl, u32_and_nat _ 255 (by omega) (by omega), show (255 : Nat) = 2 ^ 8 - 1 from rfl, Nat.and_two_pow_sub_one_eq_mod]; omega
  go_enter Tryz.func83, Tryz.ntmps83
  go_wp2_with fail
  go_ret
  exact ⟨_, _, rfl, Own.lit w (Nat.le_refl _) _ (four_cells v hv) (by simp [maxLen]), (Below.refl _ _).alloc (Nat.le_refl _) _⟩

theorem or4' (x0 x1 x2 x3 : Nat) (h0 : x0 < 256) (h1 : x1 < 256) (h2 : x2 < 256) (h3 : x3 < 256) :
    bits .or .u32 (bits .or .u32 (bits .or .u32 ((x3 : Int) * 16777216) ((x2 : Int) * 65536)) ((x1 : Int) * 256)) (x0 : Int) = ((x0 + 256 * (x1 + 256 * (x2 + 256 * x3)) : Nat) : Int) := by
  have j : ∀ (i a b : Nat), b % 2 ^ i = 0 → a < 2 ^ i → b ||| a = b + a := fun i a b hb ha => nat_join i b a hb ha
  have a1 : bits .or .u32 ((x3 : Int) * 16777216) ((x2 : Int) * 65536) = ((x3 * 16777216 + x2 * 65536 : Nat) : Int) := by
    have := u32_or_nat (x3 * 16777216) (x2 * 65536) (by omega) (by omega)
    rw [j 24 (x2 * 65536) (x3 * 16777216) (by omega) (by omega)] at this
    exact this
  have a2 : bits .or .u32 ((x3 * 16777216 + x2 * 65536 : Nat) : Int) ((x1 : Int) * 256) = ((x3 * 16777216 + x2 * 65536 + x1 * 256 : Nat) : Int) := by
    have := u32_or_nat (x3 * 16777216 + x2 * 65536) (x1 * 256) (by omega) (by omega)
    rw [j 16 (x1 * 256) (x3 * 16777216 + x2 * 65536) (by omega) (by omega)] at this
    exact this
  have a3 : bits .or .u32 ((x3 * 16777216 + x2 * 65536 + x1 * 256 : Nat) : Int) (x0 : Int) = ((x3 * 16777216 + x2 * 65536 + x1 * 256 + x0 : Nat) : Int) := by
    have := u32_or_nat (x3 * 16777216 + x2 * 65536 + x1 * 256) x0 (by omega) (by omega)
    rw [j 8 x0 (x3 * 16777216 + x2 * 65536 + x1 * 256) (by omega) (by omega)] at this
    exact this
  rw [a1, a2, a3]
  congr 1
  omega

set_option maxRecDepth 100000 in
set_option maxHeartbeats 1000000 in
theorem refnumber_quiet (a : Option Addr) (n c : Nat) (bs : List UInt8) (w : World) (hn : bs.length = n) (h4 : 4 ≤ n) (hm : n ≤ 9223372036854775807) (h : Rd w w.heap.size a bs) :
    Calls Tryz.prog 87 #[.slice a n c] w fun e w' => e = .returned (.int .u32 (CrcM.num (bs.take 4) : Nat)) ∧ ∃ k, w' = w.drewN k := by
  obtain ⟨b, o, x0, rfl, hb, hx0, hc0⟩ := h.at_ (show 0 < bs.length by omega)
  obtain ⟨b1, o1, x1, e1, _, hx1, hc1⟩ := h.at_ (show 1 < bs.length by omega)
  obtain ⟨b2, o2, x2, e2, _, hx2, hc2⟩ := h.at_ (show 2 < bs.length by omega)
  obtain ⟨b3, o3, x3, e3, _, hx3, hc3⟩ := h.at_ (show 3 < bs.length by omega)
  injection e1 with e1; injection e1 with e11 e12; subst e11; subst e12
  injection e2 with e1; injection e1 with e11 e12; subst e11; subst e12
  injection e3 with e1; injection e1 with e11 e12; subst e11; subst e12
  have i0 : (0 : Int) < (n : Int) := by omega
  have i1 : (1 : Int) < (n : Int) := by omega
  have i2 : (2 : Int) < (n : Int) := by omega
  have i3 : (3 : Int) < (n : Int) := by omega
  rw [Nat.add_zero] at hc0
  have ht : bits .or .u32 (bits .or .u32 (bits .or .u32 ((x3.toNat : Int) * 16777216) ((x2.toNat : Int) * 65536)) ((x1.toNat : Int) * 256)) (x0.toNat : Int) = (CrcM.num (bs.take 4) : Nat) := by
    rw [or4' _ _ _ _ (CrcM.u8_lt _) (CrcM.u8_lt _) (CrcM.u8_lt _) (CrcM.u8_lt _), take_four hx0 hx1 hx2 hx3]
    simp [CrcM.num]
  have HT := Lib.hid ht
  have l0 := CrcM.u8_lt x0
  have l1 := CrcM.u8_lt x1
  have l2 := CrcM.u8_lt x2
  have l3 := CrcM.u8_lt x3
  clear hn hx0 hx1 hx2 hx3 ht
  go_enter Tryz.func87, Tryz.ntmps87
  go_wp2_with fail
  go_quiet (fail)
  go_wp2_with fail
  go_ret
  exact ⟨ret_u32 HT.out, _, rfl⟩

theorem refnumber_any (a : Option Addr) (n c : Nat) (bs : List UInt8) (w : World) (hn : bs.length = n) (h4 : 4 ≤ n) (hm : n ≤ 9223372036854775807) (h : Rd w w.heap.size a bs) :
    Calls Tryz.prog 87 #[.slice a n c] w fun e w' => e = .returned (.int .u32 (CrcM.num (bs.take 4) : Nat)) ∧ Below w.heap.size w w' :=
  (refnumber_quiet a n c bs w hn h4 hm h).mono fun _ _ ⟨he, k, hk⟩ => ⟨he, by rw [hk]; exact below_drewN (Below.refl _ _) _⟩

set_option maxRecDepth 100000 in
theorem refput_long (a : Option Addr) (n c : Nat) (w : World) (hm : n ≤ 9223372036854775807) (h : 65536 < n) :
    Calls Tryz.prog 52 #[.slice a n c] w fun e w' => e = .returned (.tuple #[.slice none 0 0, .int .i64 6]) ∧ w = w' := by
  go_enter Tryz.func52, Tryz.ntmps52
  go_wp2_with fail
  go_ret2
  exact ⟨rfl, rfl⟩

set_option maxRecDepth 100000 in
set_option maxHeartbeats 2000000 in
theorem reflogput_any (a : Option Addr) (n c : Nat) (bs : List UInt8) (w : World) (hn : bs.length = n) (hm : n ≤ 65536) (h : Rd w w.heap.size a bs) :
    Calls Tryz.prog 52 #[.slice a n c] w fun e w' => ∃ a' c', e = .returned (.tuple #[.slice a' (n + 12) c', .int .i64 0]) ∧ Own w' w.heap.size a' (n + 12) c' (LogM.put bs) ∧ Below w.heap.size w w' := by
  have HN := Lib.hid hn
  clear hn
  go_enter Tryz.func52, Tryz.ntmps52
  go_wp2_with fail
  refine (reffour_any n _ (by omega)).mono ?_
  rintro e w1 ⟨a1, c1, rfl, ho1, hb1⟩
  have hr1 := h.step hb1
  have hB1 := hb1
  have hA1 := ho1.rd
  have hlit := Own.lit (B := w.heap.size) (bs := []) w1 hb1.size #[] rfl (by simp)
  have hBl : Below w.heap.size w (w1.alloc (.cells #[] 5)) := hB1.alloc hB1.size _
  have hbl : Below w1.heap.size w1 (w1.alloc (.cells #[] 5)) := (Below.refl _ _).alloc (Nat.le_refl _) _
  have hAl := hA1.below hbl
  have hrl := hr1.below hbl
  have hsl : w1.heap.size ≤ (w1.alloc (.cells #[] 5)).heap.size := by simp
  clear ho1 h
  go_wp2_with (at_builtin; refine wpList_append_b rfl (.tmp 13) (.tmp 14) rfl w1 _ w1.heap.size hbl hsl _ 0 0 [] rfl (Own.lit (B := w1.heap.size) (bs := []) w1 (Nat.le_refl _) #[] rfl (by simp)) _ a1 4 c1 (LogM.four n) rfl hAl rfl 4 (by omega) (by omega) ?_; intro a2 c2 w2 ho2 hg2 hb2 hat2)
  rw [List.nil_append] at ho2
  have hB2 : Below w.heap.size w w2 := Below.next0 hB1 hb2
  have hA2 := hA1.step hb2
  have hr2 := hr1.step hb2
  clear hlit hBl hbl hAl hrl hsl hg2 hat2 hA1
  refine (refcrc_zero a1 4 c1 (LogM.four n) _ rfl (by omega) hA2).mono ?_
  rintro e w3 ⟨rfl, rfl⟩
  clear hA2 hB2 hr2
  go_wp2_with fail
  refine (reffour_any (CrcM.crc 0 (LogM.four n)) _ (CrcM.crc_lt _ (by omega))).mono ?_
  rintro e w4 ⟨a4, c4, rfl, ho4, hb4⟩
  have hb14 : Below w1.heap.size w1 w4 := Below.next0 hb2 hb4
  have hA4 := ho4.rd
  have ho34 := ho2.call hb4
  clear ho4 ho2 hb2 hb4
  go_wp2_with (first
    | (at_builtin; refine wpList_append_b rfl (.tmp 15) (.tmp 18) rfl w1 _ w1.heap.size hb14 hb14.size _ 4 c2 (LogM.four n) rfl ho34 _ a4 4 c4 (LogM.four (CrcM.crc 0 (LogM.four n))) rfl hA4 rfl 8 (by omega) (by omega) ?_; intro a5 c5 w5 ho5 hg5 hb5 hat5; have hr5 := hr1.below hb5)
    | (at_builtin; refine wpList_append_b rfl (.tmp 20) (.tmp 21) rfl w1 _ w1.heap.size hb5 hb5.size _ 8 c5 (LogM.four n ++ LogM.four (CrcM.crc 0 (LogM.four n))) rfl ho5 _ a n c bs rfl hr5 HN.out (8 + n) (by omega) (by omega) ?_; intro a6 c6 w6 ho6 hg6 hb6 hat6))
  have hr6 := (hr1.below hb6).more hb6.size
  clear hg5 hat5 hg6 hat6 hb5 hr5 ho5 hA4 ho34 hb14
  refine (refcrc_zero a n c bs _ HN.out (by omega) hr6).mono ?_
  rintro e w7 ⟨rfl, rfl⟩
  clear hr6
  go_wp2_with fail
  refine (reffour_any (CrcM.crc 0 bs) _ (CrcM.crc_lt _ (by omega))).mono ?_
  rintro e w8 ⟨a8, c8, rfl, ho8, hb8⟩
  have hb18 : Below w1.heap.size w1 w8 := Below.next0 hb6 hb8
  have hA8 := ho8.rd
  have ho78 := ho6.call hb8
  clear ho8 ho6 hb6 hb8
  go_wp2_with (at_builtin; refine wpList_append_b rfl (.tmp 22) (.tmp 25) rfl w1 _ w1.heap.size hb18 hb18.size _ (8 + n) c6 (LogM.four n ++ LogM.four (CrcM.crc 0 (LogM.four n)) ++ bs) rfl ho78 _ a8 4 c8 (LogM.four (CrcM.crc 0 bs)) rfl hA8 rfl (n + 12) (by omega) (by omega) ?_; intro a9 c9 w9 ho9 hg9 hb9 hat9)
  go_ret2
  have e : LogM.put bs = LogM.four n ++ LogM.four (CrcM.crc 0 (LogM.four n)) ++ bs ++ LogM.four (CrcM.crc 0 bs) := by simp [LogM.put, HN.out]
  rw [e]
  exact ⟨_, _, rfl, ho9.lower hB1.size, Below.next0 hB1 hb9⟩
end Go.Proofs.YtopnhplacdbkdaaGreat
