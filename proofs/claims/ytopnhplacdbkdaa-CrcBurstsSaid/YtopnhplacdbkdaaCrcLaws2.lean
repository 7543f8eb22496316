/- The walks of CrcParts, CrcBursts and CrcSwaps: each returns true and writes nothing that was there. Condition: the arguments read as integers and bytes. -/
import Derived.Test.YtopnhplacdbkdaaCrcTurned
import Derived.Test.YtopnhplacdbkdaaCrcLaws
import Derived.BigQuiet
import Derived.Deep.RegionHeld3
import Derived.BigRegion
namespace Go.Proofs.Ytopnhplacdbkdaa
open Go.RowKit

set_option maxRecDepth 100000 in
set_option maxHeartbeats 1000000 in
theorem walkCrcBursts (a : Option Addr) (n c : Nat) (bs : List UInt8) (k m : Nat) (w : World) (hn : bs.length = n) (hm : n ≤ 9223372036854775807) (h : Rd w w.heap.size a bs) (_hc : n ≤ c) (_hcm : c ≤ 9223372036854775807) (hk : k < 65536) (hml : m < 4294967296) :
    Calls Try.prog 5 #[.slice a n c, .int .u16 (k : Int), .int .u32 (m : Int)] w fun e w' => e = .returned (.bool true) ∧ Below w.heap.size w w' := by
  have HN := Lib.hid hn
  clear hn
  by_cases h4 : n < 4
  · go_enter Try.func5, Try.ntmps5
    go_wp2_with (go_at_call 19; refine (crcknown_any _).mono ?_; rintro e w1 ⟨rfl, hb1⟩)
    go_ret
    exact ⟨rfl, hb1⟩
  by_cases h5 : 5000 < n
  · go_enter Try.func5, Try.ntmps5
    go_wp2_with (go_at_call 19; refine (crcknown_any _).mono ?_; rintro e w1 ⟨rfl, hb1⟩)
    go_ret
    exact ⟨rfl, hb1⟩
  by_cases h0 : m = 0
  · subst h0
    go_enter Try.func5, Try.ntmps5
    go_wp2_with (go_at_call 19; refine (crcknown_any _).mono ?_; rintro e w1 ⟨rfl, hb1⟩)
    go_ret
    exact ⟨rfl, hb1⟩
  · have hz : ((m : Int) == 0) = false := by simp; exact h0
    have hq : ((k : Int) % (8 * (n : Int) - 31)) = ((k % (8 * n - 31) : Nat) : Int) := by
      have : (8 * (n : Int) - 31) = ((8 * n - 31 : Nat) : Int) := by omega
      rw [this]; rfl
    obtain ⟨q, hqq⟩ : ∃ q, q = k % (8 * n - 31) := ⟨_, rfl⟩
    have hql : q < 8 * n - 31 := by rw [hqq]; exact Nat.mod_lt _ (by omega)
    rw [← hqq] at hq
    clear hqq
    have hne : ¬ ((CrcM.crc 0 (CrcM.turn bs q m 32) : Nat) : Int) = (CrcM.crc 0 bs : Nat) := by
      have := CrcM.crc_turn (s := 0) bs q m hml h0 (by rw [HN.out]; omega)
      omega
    have hnb : (((CrcM.crc 0 (CrcM.turn bs q m 32) : Nat) : Int) != (CrcM.crc 0 bs : Nat)) = true := by rw [bne_iff_ne]; exact hne
    go_enter Try.func5, Try.ntmps5
    go_wp2_with (go_at_call 19; refine (crcknown_any _).mono ?_; rintro e w1 ⟨rfl, hb1⟩)
    have hr1 := h.step hb1
    have hm1 : n ≤ 5000 := by omega
    refine (turned_any _ n c bs q m _ HN.out hm1 (by omega) hml hr1).mono ?_
    rintro e w2 ⟨a', c', rfl, hown, hb2⟩
    have hr2 := hown.rd
    have hB2 := Below.next0 hb1 hb2
    have hr3 := hr1.step hb2
    clear hb2 hb1 hr1 h hq
    go_wp2_with fail
    refine (sum_any _ _ _ (CrcM.turn bs q m 32) _ hown.len hm hr2).mono ?_
    rintro e w3 ⟨rfl, hb3⟩
    have hr4 := hr3.step hb3
    have hB3 := Below.next0 hB2 hb3
    clear hb3 hB2 hr3 hr2 hown
    go_wp2_with fail
    refine (sum_any _ _ _ bs _ HN.out hm hr4).mono ?_
    rintro e w4 ⟨rfl, hb4⟩
    have hB4 := Below.next0 hB3 hb4
    clear hb4 hB3 hr4
    go_wp2_with fail
    go_ret
    exact ⟨rfl, hB4⟩

theorem walkCrcSwaps_short (a : Option Addr) (n c : Nat) (k : Nat) (w : World) (hm : n ≤ 9223372036854775807) (h4 : n < 2 ∨ 5000 < n) :
    Calls Try.prog 6 #[.slice a n c, .int .u16 (k : Int)] w fun e w' => e = .returned (.bool true) ∧ Below w.heap.size w w' := by
  rcases h4 with h4 | h4
  · go_enter Try.func6, Try.ntmps6
    go_wp2_with (go_at_call 19; refine (crcknown_any _).mono ?_; rintro e w1 ⟨rfl, hb1⟩)
    go_ret
    exact ⟨rfl, hb1⟩
  · go_enter Try.func6, Try.ntmps6
    go_wp2_with (go_at_call 19; refine (crcknown_any _).mono ?_; rintro e w1 ⟨rfl, hb1⟩)
    go_ret
    exact ⟨rfl, hb1⟩

theorem rd_later {W w : World} {a : Option Addr} {bs : List UInt8} (h : Rd W W.heap.size a bs) (hb : Below W.heap.size W w) : Rd w w.heap.size a bs := (h.below hb).more hb.size
theorem swap_iff {bs : List UInt8} {q : Nat} {x y : UInt8} (h : q + 1 < bs.length) (hx : bs[q]? = some x) (hy : bs[q + 1]? = some y) :
    (((CrcM.crc 0 ((bs.set q y).set (q + 1) x) : Nat) : Int) == (CrcM.crc 0 bs : Nat)) = (((x.toNat : Int)) == (y.toNat : Int)) := by
  have hx' : bs[q] = x := by rw [List.getElem?_eq_getElem (by omega)] at hx; simpa using hx
  have hy' : bs[q + 1] = y := by rw [List.getElem?_eq_getElem h] at hy; simpa using hy
  have := CrcM.crc_swap (s := 0) bs q h
  rw [hx', hy'] at this
  rw [Bool.eq_iff_iff, beq_iff_eq, beq_iff_eq, Int.natCast_inj, Int.natCast_inj, this, UInt8.toNat_inj]
set_option maxRecDepth 100000 in
set_option maxHeartbeats 1000000 in
theorem walkCrcSwaps_long (b o : Nat) (n c : Nat) (bs : List UInt8) (k q : Nat) (x y : UInt8) (w : World) (hn : bs.length = n) (hm : n ≤ 5000) (h : Rd w w.heap.size (some ⟨b, o, none⟩) bs) (hb : b < w.heap.size)
    (hk : k < 65536) (hq : (k : Int) % ((n : Int) - 1) = (q : Int)) (hql : q + 1 < n) (h2 : 2 ≤ n) (hx : bs[q]? = some x) (hy : bs[q + 1]? = some y) (hcx : w.cell? ⟨b, o + q, none⟩ = some (.int .u8 (x.toNat : Int))) (hcy : w.cell? ⟨b, o + (q + 1), none⟩ = some (.int .u8 (y.toNat : Int))) :
    Calls Try.prog 6 #[.slice (some ⟨b, o, none⟩) n c, .int .u16 (k : Int)] w fun e w' => e = .returned (.bool true) ∧ Below w.heap.size w w' := by
  have HN := Lib.hid hn
  have HX := Lib.hid hx
  have HY := Lib.hid hy
  clear hn hx hy
  go_enter Try.func6, Try.ntmps6
  go_wp2_with (first | (go_at_call 19; refine (crcknown_any _).mono ?_; rintro e w1 ⟨rfl, hb1⟩; have hlit := Own.lit (B := w.heap.size) (bs := []) w1 hb1.size #[] rfl (by simp); have hbl : Below w.heap.size w (w1.alloc (.cells #[] 5)) := hb1.alloc hb1.size _; have hrl := h.below hbl) | (at_builtin; refine wpList_append_b rfl (.tmp 23) (.tmp 24) rfl w _ w.heap.size hbl hbl.size _ 0 0 [] rfl hlit _ _ n c bs rfl hrl HN.out n (by omega) (by omega) ?_; intro a1 c1 w2 hown1 hg1 hb2 hat1; obtain ⟨g, rfl, hgB, hgl⟩ := hown1.at_ (by omega); have hf1 := hown1.frozen q; have hf2 := hown1.frozen (q + 1); have hc1 := hown1.cell HX.out; have hc2 := hown1.cell HY.out))
  have hi0 : (0 : Int) ≤ (q : Int) := by omega
  have hi1 : (q : Int) < (n : Int) := by omega
  have hi2 : (0 : Int) ≤ (q : Int) + 1 := by omega
  have hi3 : (q : Int) + 1 < (n : Int) := by omega
  go_region
  go_wp2_with fail
  obtain ⟨W, hW⟩ : ∃ W, W = ((w2.setCell ⟨g, q, none⟩ (.int .u8 (y.toNat : Int))).setCell ⟨g, q + 1, none⟩ (.int .u8 (x.toNat : Int))).drew := ⟨_, rfl⟩
  rw [← hW]
  have hown : Own W w.heap.size (some ⟨g, 0, none⟩) n c1 ((bs.set q y).set (q + 1) x) := by rw [hW]; exact ((hown1.store (i := q) y).store (i := q + 1) x).drew
  have hbW : Below w.heap.size w W := by rw [hW]; exact ((hb2.setCell hgB _).setCell hgB _).drew
  have hRd : Rd W W.heap.size (some ⟨b, o, none⟩) bs := (h.below hbW).more hbW.size
  have hRo := hown.rd
  have hcX : W.cell? ⟨b, o + q, none⟩ = some (.int .u8 (x.toNat : Int)) := (hbW.cell (p := ⟨b, o + q, none⟩) hb).trans hcx
  have hcY : W.cell? ⟨b, o + (q + 1), none⟩ = some (.int .u8 (y.toNat : Int)) := (hbW.cell (p := ⟨b, o + (q + 1), none⟩) hb).trans hcy
  have hbl2 : b < W.heap.size := by have := hbW.size; omega
  have hgl2 : g < W.heap.size := by rcases hown.form with ⟨h0, _⟩ | ⟨g', cur, e, _, hg, _⟩ <;> first | (cases h0; done) | (injection e with e; injection e with e; omega)
  have hol := hown.len
  clear hW hcx hcy hf1 hf2 hc1 hc2 hg1 hat1 hown1 hb2 hb1 hlit hbl hrl h hgl hown
  have hiff : (((CrcM.crc 0 ((bs.set q y).set (q + 1) x) : Nat) : Int) == (CrcM.crc 0 bs : Nat)) = (((x.toNat : Int)) == (y.toNat : Int)) := swap_iff (by rw [HN.out]; exact hql) HX.out HY.out
  have hB0 : Below W.heap.size W W.drew := (Below.refl _ _).drew
  have hwr : IntKind.i64.wrap ((q : Int) + 1) = (q : Int) + 1 := IntWalk.i64_in _ (by omega)
  go_region_held3 (fun w' => w'.cell? ⟨b, o + q, none⟩ = some (.int .u8 (x.toNat : Int)) ∧ w'.cell? ⟨b, o + (q + 1), none⟩ = some (.int .u8 (y.toNat : Int)) ∧ Below W.heap.size W w')
    (first | exact ⟨hcX, hcY, (Below.refl _ _).drew⟩ | exact ⟨by assumption, by assumption, by assumption⟩)
    (first
      | (go_at_call 20; ((with_reducible refine (sum_any (some ⟨g, 0, none⟩) n c1 ((bs.set q y).set (q + 1) x) _ hol (by omega) ?_).mono ?_); (exact rd_later hRo (by assumption)); rintro e w5 ⟨rfl, hb5⟩; have hB5 : Below W.heap.size W w5 := Below.next0 (by assumption) hb5; have hx5 := (hB5.cell (p := ⟨b, o + q, none⟩) hbl2).trans hcX; have hy5 := (hB5.cell (p := ⟨b, o + (q + 1), none⟩) hbl2).trans hcY))
      | (go_at_call 20; ((with_reducible refine (sum_any (some ⟨b, o, none⟩) n c bs _ HN.out (by omega) ?_).mono ?_); (exact rd_later hRd (by assumption)); rintro e w6 ⟨rfl, hb6⟩; have hB6 : Below W.heap.size W w6 := Below.next0 (by assumption) hb6; have hx6 := (hB6.cell (p := ⟨b, o + q, none⟩) hbl2).trans hcX; have hy6 := (hB6.cell (p := ⟨b, o + (q + 1), none⟩) hbl2).trans hcY)))
  go_wp2_with fail
  go_ret
  exact ⟨rfl, Below.next0 hbW (by assumption)⟩

theorem walkCrcSwaps (a : Option Addr) (n c : Nat) (bs : List UInt8) (k : Nat) (w : World) (hn : bs.length = n) (hm : n ≤ 9223372036854775807) (h : Rd w w.heap.size a bs) (_hc : n ≤ c) (_hcm : c ≤ 9223372036854775807) (hk : k < 65536) :
    Calls Try.prog 6 #[.slice a n c, .int .u16 (k : Int)] w fun e w' => e = .returned (.bool true) ∧ Below w.heap.size w w' := by
  by_cases h4 : n < 2 ∨ 5000 < n
  · exact walkCrcSwaps_short a n c k w hm h4
  · have hql : k % (n - 1) < n - 1 := Nat.mod_lt _ (by omega)
    have hq : (k : Int) % ((n : Int) - 1) = ((k % (n - 1) : Nat) : Int) := by
      have : (n : Int) - 1 = ((n - 1 : Nat) : Int) := by omega
      rw [this]; rfl
    obtain ⟨q, hqq⟩ : ∃ q, q = k % (n - 1) := ⟨_, rfl⟩
    rw [← hqq] at hq hql
    obtain ⟨b, o, x, rfl, hb, hx, hcx⟩ := h.at_ (show q < bs.length by omega)
    obtain ⟨b', o', y, e, _, hy, hcy⟩ := h.at_ (show q + 1 < bs.length by omega)
    injection e with e
    injection e with e1 e2
    subst e1; subst e2
    exact walkCrcSwaps_long b o n c bs k q x y w hn (by omega) h hb hk hq (by omega) (by omega) hx hy hcx hcy

theorem parts_key (bs : List UInt8) (p : Nat) : ∀ m, CrcM.crc (CrcM.crc 0 (bs.take p)) ((bs.drop p).take m) = CrcM.crc 0 (bs.take (p + m)) := by
  intro m
  rw [CrcM.crc_append, List.take_add]
set_option maxRecDepth 100000 in
set_option maxHeartbeats 1000000 in
theorem walkCrcParts (a : Option Addr) (n c : Nat) (bs : List UInt8) (a' : Option Addr) (n' c' : Nat) (cs : List UInt8) (w : World) (hn : bs.length = n) (hm : n ≤ 9223372036854775807) (h : Rd w w.heap.size a bs) (hc : n ≤ c) (hcm : c ≤ 9223372036854775807)
    (hn' : cs.length = n') (hm' : n' ≤ 9223372036854775807) (h' : Rd w w.heap.size a' cs) (_hc' : n' ≤ c') (_hcm' : c' ≤ 9223372036854775807) :
    Calls Try.prog 4 #[.slice a n c, .slice a' n' c'] w fun e w' => e = .returned (.bool true) ∧ Below w.heap.size w w' := by
  have HN := Lib.hid hn
  have HN' := Lib.hid hn'
  clear hn hn'
  by_cases h5 : 5000 < n
  · go_enter Try.func4, Try.ntmps4
    go_wp2_with (go_at_call 19; refine (crcknown_any _).mono ?_; rintro e w1 ⟨rfl, hb1⟩)
    go_ret
    exact ⟨rfl, hb1⟩
  · have h00 := CrcM.crc_nil 0
    go_enter Try.func4, Try.ntmps4
    go_wp2_with (first | (go_at_call 19; refine (crcknown_any _).mono ?_; rintro e w1 ⟨rfl, hb1⟩) | (go_at_call 20; refine (sum_any none 0 0 [] _ rfl (by omega) (.inl rfl)).mono ?_; rintro e w2 ⟨rfl, hb2⟩; have hB2 := Below.next0 hb1 hb2; rw [h00]))
    have hra := h.below hB2
    have hrb := h'.below hB2
    clear hb2 hb1 h h'
    go_loopw [5, 6, 7] (fun s at_ i wr => ∃ k p : Nat, k ≤ n' ∧ k ≤ 100 ∧ p ≤ n ∧ i = .int .i64 k ∧ at_ = .int .i64 p ∧ s = .int .u32 (CrcM.crc 0 (bs.take p) : Nat) ∧ Below w.heap.size w wr) (fun _ _ i _ => 100 - (intOf i).toNat)
    case atStart => exact ⟨0, 0, by omega, by omega, by omega, rfl, rfl, by rw [List.take_zero, h00]; rfl, hB2⟩
    case round =>
      obtain ⟨k, p, hk, hk1, hp, rfl, rfl, rfl, hbel⟩ := hrel
      by_cases hlt : k < n' ∧ k < 100
      · obtain ⟨hlt1, hlt2⟩ := hlt
        have hrw := Rd.keep hrb (w' := wr) (fun q hq => by rw [hbel.cell hq, hB2.cell hq])
        obtain ⟨b, o, x, rfl, hb, hx, hcx⟩ := hrw.at_ (show k < cs.length by rw [HN'.out]; exact hlt1)
        have HX := Lib.hid hx
        have hxl := CrcM.u8_lt x
        have hka : Rd wr wr.heap.size a bs := Rd.more (Rd.keep hra (w' := wr) (fun q hq => by rw [hbel.cell hq, hB2.cell hq])) hbel.size
        have hcut : Rd wr wr.heap.size (cutA a c p 1) (bs.drop p) := hka.cutA (by rw [HN.out]; exact hc)
        have HK := Lib.hid (parts_key bs p)
        have hcl := CrcM.crc_lt (s := 0) (bs.take p) (by omega)
        clear hx hrw hrb hra
        by_cases hmin : p + x.toNat ≤ n
        · have hx0 : (p : Int) + (x.toNat : Int) ≤ (n : Int) := by omega
          have hsl := fun W => slice_lh_b W a n c .i64 .i64 (p : Int) ((p : Int) + (x.toNat : Int)) (by omega) (by omega) (by omega)
          go_wp2_with fail
          refine (next_any _ _ _ _ ((bs.drop p).take x.toNat) _ hcl (by simp; rw [HN.out]; omega) (by omega) (hcut.front _)).mono ?_
          rintro e w3 ⟨rfl, hb3⟩
          rw [HK.out]
          go_wp2_with fail
          go_roundw
          case rel => exact ⟨k + 1, p + x.toNat, by omega, by omega, by omega, by go_num, by go_num, rfl, Below.next0 hbel hb3⟩
          case measure => simp [intOf]; omega
        · have hx0 : (n : Int) < (p : Int) + (x.toNat : Int) := by omega
          have hsl := fun W => slice_lh_b W a n c .i64 .i64 (p : Int) (n : Int) (by omega) (by omega) (by omega)
          go_wp2_with fail
          refine (next_any _ _ _ _ ((bs.drop p).take (n - p)) _ hcl (by rw [List.length_take, List.length_drop, HN.out]; omega) (by omega) (hcut.front _)).mono ?_
          rintro e w3 ⟨rfl, hb3⟩
          rw [HK.out, show p + (n - p) = n by omega]
          go_wp2_with fail
          go_roundw
          case rel => exact ⟨k + 1, n, by omega, by omega, by omega, by go_num, by go_num, rfl, Below.next0 hbel hb3⟩
          case measure => simp [intOf]; omega
      · have hka : Rd wr wr.heap.size a bs := Rd.more (Rd.keep hra (w' := wr) (fun q hq => by rw [hbel.cell hq, hB2.cell hq])) hbel.size
        have hcut : Rd wr wr.heap.size (cutA a c p 1) (bs.drop p) := hka.cutA (by rw [HN.out]; exact hc)
        have HK : Hid (CrcM.crc (CrcM.crc 0 (bs.take p)) (bs.drop p) = CrcM.crc 0 bs) := Lib.hid (by rw [CrcM.crc_append, List.take_append_drop])
        have hcl := CrcM.crc_lt (s := 0) (bs.take p) (by omega)
        clear hrb hra
        by_cases hlt1 : k < n'
        · have hlt2 : ¬ k < 100 := fun h => hlt ⟨hlt1, h⟩
          have hd1 : decide ((k : Int) < (n' : Int)) = true := by simp; omega
          have hd2 : decide ((k : Int) < 100) = false := by simp; omega
          clear hlt
          have hsl := fun W => slice_l_b W a n c .i64 (p : Int) (by omega) (by omega)
          go_wp2_with fail
          refine (next_any _ _ _ _ (bs.drop p) _ hcl (by rw [List.length_drop, HN.out]) (by omega) hcut).mono ?_
          rintro e w3 ⟨rfl, hb3⟩
          rw [HK.out]
          have hk3 := hka.step hb3
          have hB3 := Below.next0 hbel hb3
          clear hka hcut hb3
          go_wp2_with fail
          refine (sum_any a n c bs _ HN.out hm hk3).mono ?_
          rintro e w4 ⟨rfl, hb4⟩
          have hB4 := Below.next0 hB3 hb4
          clear hb4 hB3 hk3
          go_wp2_with fail
          refine (sum_any none 0 0 [] _ rfl (by omega) (.inl rfl)).mono ?_
          rintro e w5 ⟨rfl, hb5⟩
          have hB5 := Below.next0 hB4 hb5
          clear hb5 hB4
          rw [h00]
          go_wp2_with fail
          go_ret
          exact ⟨rfl, hB5⟩
        · have hd1 : decide ((k : Int) < (n' : Int)) = false := by simp; omega
          clear hlt
          have hsl := fun W => slice_l_b W a n c .i64 (p : Int) (by omega) (by omega)
          go_wp2_with fail
          refine (next_any _ _ _ _ (bs.drop p) _ hcl (by rw [List.length_drop, HN.out]) (by omega) hcut).mono ?_
          rintro e w3 ⟨rfl, hb3⟩
          rw [HK.out]
          have hk3 := hka.step hb3
          have hB3 := Below.next0 hbel hb3
          clear hka hcut hb3
          go_wp2_with fail
          refine (sum_any a n c bs _ HN.out hm hk3).mono ?_
          rintro e w4 ⟨rfl, hb4⟩
          have hB4 := Below.next0 hB3 hb4
          clear hb4 hB3 hk3
          go_wp2_with fail
          refine (sum_any none 0 0 [] _ rfl (by omega) (.inl rfl)).mono ?_
          rintro e w5 ⟨rfl, hb5⟩
          have hB5 := Below.next0 hB4 hb5
          clear hb5 hB4
          rw [h00]
          go_wp2_with fail
          go_ret
          exact ⟨rfl, hB5⟩
end Go.Proofs.Ytopnhplacdbkdaa
